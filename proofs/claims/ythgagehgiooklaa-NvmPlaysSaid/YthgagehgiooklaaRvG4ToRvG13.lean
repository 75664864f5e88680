/-
  What functions of the seat compute, printed by a program from the explorer.
-/
import Derived.Test.YthgagehgiooklaaG8ToRvS1
import Derived.KernelRfl
section
namespace Go.Proofs.Ythgagehgiooklaa.G
open Go Go.AM Go.Proofs
/-! ### rsure -/

noncomputable def ish_rsure : FSh := ⟨[.v false [.p 0 0], .v false [.k (.n .i64)], .v false [.k (.n .i64)]], [.cells [.sw 1 8, .sw 2 1, .k .b, .k (.n .i64), .k (.n .i64)], .rows [.n .u64, .n .u64, .n .u64, .n .u64, .n .u64, .n .u64, .n .u64, .n .u64] true, .nrows [.n .i64] 0 [.n .i64, .n .u64, .b, .b, .b, .b, .b, .b, .b, .b] 3 false true, .no]⟩
noncomputable def osh_rsure : FSh := ⟨[.tup []], [.cells [.sw 1 8, .sw 2 1, .k .b, .k (.n .i64), .k (.n .i64)], .rows [.n .u64, .n .u64, .n .u64, .n .u64, .n .u64, .n .u64, .n .u64, .n .u64] true, .nrows [.n .i64] 0 [.n .i64, .n .u64, .b, .b, .b, .b, .b, .b, .b, .b] 4 false true, .no, .no]⟩
noncomputable def T_rsure (x0 : Int) (x1 : Int) (x2 : Bool) (x3 : Int) (x4 : Int) (n5 : Nat) (g5 : Nat → Nat → Int) (n6 : Nat) (g6 : Nat → Nat → Int) (h6 : Nat → Nat → Int) : Tr (List At) :=
 .br 0 (Go.Proofs.Ythgagehgiooklaa.G.pdec (Go.Proofs.Ythgagehgiooklaa.G.RMem.hasOk { n := n5, S := g5, k := n6, G := g6, L := h6, off := x2, left := x3, count := x4 } x0 x1))
 (.br 15 (Go.AM.within x0 n5)
 (.br 27 (Go.AM.within x0 n6)
 (.br 30 (Decidable.decide ((0 : Int) ≤ x1) && Decidable.decide (x1 ≤ (↑(Int.toNat (g6 (Int.toNat x0) (0 : Nat))) : Int)))
 (.br 31 (Decidable.decide (Int.toNat (↑(Int.toNat (g6 (Int.toNat x0) (0 : Nat))) : Int) - Int.toNat x1 ≤ (1073741824 : Nat)))
 (.br 32 (Go.AM.within x0 n6)
 (.br 0 (Bool.true)
 (.ok [(.b (x2)), (.i (x3)), (.i (x4)), (.r (n5) (Go.AM.updG (Go.AM.updG (Go.AM.updG (Go.AM.updG (Go.AM.updG (Go.AM.updG (Go.AM.updG (Go.AM.updG g5 (Int.toNat x0) (0 : Nat) (Go.Proofs.Ythgagehgiooklaa.G.rsS (g5 (Int.toNat x0)) (h6 (Int.toNat x0)) (Int.toNat x1) (0 : Nat))) (Int.toNat x0) (1 : Nat) (Go.Proofs.Ythgagehgiooklaa.G.rsS (g5 (Int.toNat x0)) (h6 (Int.toNat x0)) (Int.toNat x1) (1 : Nat))) (Int.toNat x0) (2 : Nat) (Go.Proofs.Ythgagehgiooklaa.G.rsS (g5 (Int.toNat x0)) (h6 (Int.toNat x0)) (Int.toNat x1) (2 : Nat))) (Int.toNat x0) (3 : Nat) (Go.Proofs.Ythgagehgiooklaa.G.rsS (g5 (Int.toNat x0)) (h6 (Int.toNat x0)) (Int.toNat x1) (3 : Nat))) (Int.toNat x0) (4 : Nat) (Go.Proofs.Ythgagehgiooklaa.G.rsS (g5 (Int.toNat x0)) (h6 (Int.toNat x0)) (Int.toNat x1) (4 : Nat))) (Int.toNat x0) (5 : Nat) (Go.Proofs.Ythgagehgiooklaa.G.rsS (g5 (Int.toNat x0)) (h6 (Int.toNat x0)) (Int.toNat x1) (5 : Nat))) (Int.toNat x0) (6 : Nat) (Go.Proofs.Ythgagehgiooklaa.G.rsS (g5 (Int.toNat x0)) (h6 (Int.toNat x0)) (Int.toNat x1) (6 : Nat))) (Int.toNat x0) (7 : Nat) (Go.Proofs.Ythgagehgiooklaa.G.rsS (g5 (Int.toNat x0)) (h6 (Int.toNat x0)) (Int.toNat x1) (7 : Nat)))), (.q (n6) (Go.AM.updG g6 (Int.toNat x0) (0 : Nat) (↑(Int.toNat (↑(Int.toNat (g6 (Int.toNat x0) (0 : Nat))) : Int) - Int.toNat x1) : Int)) ((0 : Nat)) ((10 : Nat)) (Go.AM.putM h6 (Int.toNat x0) (10 : Nat) fun (j c : Nat) => h6 (Int.toNat x0) ((Int.toNat x1 + j) * (10 : Nat) + c)))])
 (.no))
 (.no))
 (.no))
 (.no))
 (.no))
 (.no))
 (.no)
noncomputable def y_rsure : Nat → Option Nat := (syOf3 [15, 27, 30, 31, 32] [] [])
noncomputable def TL_rsure (l : List At) : Tr (List At) := T_rsure (aI l 0) (aI l 1) (aB l 2) (aI l 3) (aI l 4) (aRn l 5) (aRg l 5) (aRn l 6) (aRg l 6) (aMh l 6 0 10)
theorem e_rsure (l : List At) : (call Try.prog Γ_RS1 y_rsure noLoops 100 Try.f47 (mkV ish_rsure l) (mkH ish_rsure l)).bind (leafO 4 osh_rsure) = TL_rsure l := by kernel_rfl
noncomputable def F_rsure : List At → Tr (List At) := TL_rsure
theorem s_rsure : SpecF Try.prog 47 (.eff (locF ish_rsure osh_rsure F_rsure)) :=
  spec_loc (sy := y_rsure) (fuel := 100) (Lp := noLoops) o_RS1 mixed ⟨Try.func47, by kernel_rfl, by kernel_rfl⟩ ish_rsure osh_rsure (noLoops_ok _) (hT_ways e_rsure)
noncomputable def Γ_rsure : Specs := upd Γ_RS1 47 (.eff (locF ish_rsure osh_rsure F_rsure))
theorem o_rsure : SpecOK Try.prog Γ_rsure := SpecOK.upd o_RS1 s_rsure

end Go.Proofs.Ythgagehgiooklaa.G
end

/-
  The reference's sure, in plain words.
-/
section
namespace Go.Proofs.Ythgagehgiooklaa.G
open Go Go.AM Go.Proofs

def RMem.suM (y : RMem) (i m : Int) : RMem := y.wit (updR y.S i.toNat (rsS (y.S i.toNat) (y.L i.toNat) m.toNat)) (updG y.G i.toNat 0 (y.G i.toNat 0 - m)) (updR y.L i.toNat (rsL (y.L i.toNat) m.toNat))

noncomputable def F2_rsure (l : List At) : Tr (List At) := .br 0 (pdec ((mmr l 2).hasOk (aI l 0) (aI l 1))) (.ok ((mmr l 2).suM (aI l 0) (aI l 1)).ats) .no

theorem updG8 (g : Nat → Nat → Int) (i : Nat) (w : Nat → Int) (hw : ∀ c, 8 ≤ c → w c = g i c) : updG (updG (updG (updG (updG (updG (updG (updG g i 0 (w 0)) i 1 (w 1)) i 2 (w 2)) i 3 (w 3)) i 4 (w 4)) i 5 (w 5)) i 6 (w 6)) i 7 (w 7) = updR g i w := by
  funext j c
  unfold updG updR
  by_cases h : j = i
  · subst h
    rw [if_pos rfl]
    match c with
    | 0 | 1 | 2 | 3 | 4 | 5 | 6 | 7 => simp
    | c + 8 =>
      rw [if_neg (by omega), if_neg (by omega), if_neg (by omega), if_neg (by omega), if_neg (by omega), if_neg (by omega), if_neg (by omega), if_neg (by omega)]
      rw [if_pos rfl]
      exact (hw (c + 8) (by omega)).symm
  · simp [h]

theorem t_rsure (y : RMem) (i m : Int) (h : y.hasOk i m) : (T_rsure i m y.off y.left y.count y.n y.S y.k y.G y.L).sat fun r => AtsEq r (y.suM i m).ats := by
  obtain ⟨h0, ⟨h1, h2⟩, h3, h4, h5, h6, h7⟩ := id h
  have e1 : ((y.G i.toNat 0).toNat : Int) = y.G i.toNat 0 := Int.toNat_of_nonneg h5
  have e2 : (((y.G i.toNat 0).toNat - m.toNat : Nat) : Int) = y.G i.toNat 0 - m := by omega
  unfold T_rsure
  simp only [e1]
  refine brT (pdec_yes h) (brT (by simp [within]; omega) (brT (by simp [within]; omega) (brT (by simp; omega) (brT (by simp; omega) (brT (by simp [within]; omega) (brT rfl (Tr.sat_ok.2 ?_)))))))
  rw [e2, updG8 y.S i.toNat (rsS (y.S i.toNat) (y.L i.toNat) m.toNat) (fun c hc => by unfold rsS; rw [if_neg (by omega)])]
  refine atsEq_cons (AtEq.refl _) (atsEq_cons (AtEq.refl _) (atsEq_cons (AtEq.refl _) (atsEq_cons (AtEq.refl _) (atsEq_cons (atEq_qe rfl ?_) atsEq_nil))))
  funext j k
  show putM y.L i.toNat 10 (fun j c => y.L i.toNat ((m.toNat + j) * 10 + c)) j k = updR y.L i.toNat (rsL (y.L i.toNat) m.toNat) j k
  unfold putM updR rsL
  by_cases hj : j = i.toNat
  · rw [if_pos hj, if_pos hj]
    exact congrArg (y.L i.toNat) (by omega)
  · rw [if_neg hj, if_neg hj]

theorem s2_rsure : SpecF Try.prog 47 (.eff (locF ish_rsure osh_rsure F2_rsure)) :=
  spec_loc (sy := y_rsure) (fuel := 100) (Lp := noLoops) o_RS1 mixed ⟨Try.func47, by kernel_rfl, by kernel_rfl⟩ ish_rsure osh_rsure (noLoops_ok _) (hT_of e_rsure fun l r h => by
    obtain ⟨h1, h⟩ := guard_val h
    have := val_ok h
    subst this
    exact t_rsure (mmr l 2) _ _ (of_pdec h1))
noncomputable def Γ_RS2 : Specs := upd Γ_RS1 47 (.eff (locF ish_rsure osh_rsure F2_rsure))
theorem o_RS2 : SpecOK Try.prog Γ_RS2 := SpecOK.upd o_RS1 s2_rsure
end Go.Proofs.Ythgagehgiooklaa.G
end

/-
  What functions of the seat compute, printed by a program from the explorer.
-/
section
namespace Go.Proofs.Ythgagehgiooklaa.G
open Go Go.AM Go.Proofs
/-! ### rload -/

noncomputable def ish_rload : FSh := ⟨[.v false [.p 0 0], .v false [.k (.n .i64)]], [.roc [.sw 1 8, .sw 2 1, .k .b, .k (.n .i64), .k (.n .i64)], .rows [.n .u64, .n .u64, .n .u64, .n .u64, .n .u64, .n .u64, .n .u64, .n .u64] false, .nrows [.n .i64] 0 [.n .i64, .n .u64, .b, .b, .b, .b, .b, .b, .b, .b] 3 false false, .no]⟩
noncomputable def osh_rload : FSh := ⟨[.tup [(true, [.k (.n .u64), .k (.n .u64), .k (.n .u64), .k (.n .u64), .k (.n .u64), .k (.n .u64), .k (.n .u64), .k (.n .u64)]), (false, [.k (.n .i64)])]], [.no, .no, .no, .no]⟩
noncomputable def T_rload (x0 : Int) (x1 : Bool) (x2 : Int) (x3 : Int) (n4 : Nat) (g4 : Nat → Nat → Int) (n5 : Nat) (g5 : Nat → Nat → Int) (h5 : Nat → Nat → Int) : Tr (List At) :=
 .br 9 (!Go.Proofs.Ythgagehgiooklaa.G.RMem.is { n := n4, S := g4, k := n5, G := g5, L := h5, off := x1, left := x2, count := x3 } x0)
 (.ok [(.i ((0 : Int))), (.i ((0 : Int))), (.i ((0 : Int))), (.i ((0 : Int))), (.i ((0 : Int))), (.i ((0 : Int))), (.i ((0 : Int))), (.i ((0 : Int))), (.i ((1 : Int)))])
 (.br 14 (x1)
 (.ok [(.i ((0 : Int))), (.i ((0 : Int))), (.i ((0 : Int))), (.i ((0 : Int))), (.i ((0 : Int))), (.i ((0 : Int))), (.i ((0 : Int))), (.i ((0 : Int))), (.i ((4 : Int)))])
 (.br 23 (Go.AM.within x0 n5)
 (.br 0 (Go.Proofs.Ythgagehgiooklaa.G.pdec (Go.Proofs.Ythgagehgiooklaa.G.RMem.hasOk { n := n4, S := g4, k := n5, G := g5, L := h5, off := x1, left := x2, count := x3 } x0 (↑(Int.toNat (g5 (Int.toNat x0) (0 : Nat))) : Int)))
 (.ok [(.i (Go.Proofs.Ythgagehgiooklaa.G.rsS (g4 (Int.toNat x0)) (h5 (Int.toNat x0)) (Int.toNat (↑(Int.toNat (g5 (Int.toNat x0) (0 : Nat))) : Int)) (0 : Nat))), (.i (Go.Proofs.Ythgagehgiooklaa.G.rsS (g4 (Int.toNat x0)) (h5 (Int.toNat x0)) (Int.toNat (↑(Int.toNat (g5 (Int.toNat x0) (0 : Nat))) : Int)) (1 : Nat))), (.i (Go.Proofs.Ythgagehgiooklaa.G.rsS (g4 (Int.toNat x0)) (h5 (Int.toNat x0)) (Int.toNat (↑(Int.toNat (g5 (Int.toNat x0) (0 : Nat))) : Int)) (2 : Nat))), (.i (Go.Proofs.Ythgagehgiooklaa.G.rsS (g4 (Int.toNat x0)) (h5 (Int.toNat x0)) (Int.toNat (↑(Int.toNat (g5 (Int.toNat x0) (0 : Nat))) : Int)) (3 : Nat))), (.i (Go.Proofs.Ythgagehgiooklaa.G.rsS (g4 (Int.toNat x0)) (h5 (Int.toNat x0)) (Int.toNat (↑(Int.toNat (g5 (Int.toNat x0) (0 : Nat))) : Int)) (4 : Nat))), (.i (Go.Proofs.Ythgagehgiooklaa.G.rsS (g4 (Int.toNat x0)) (h5 (Int.toNat x0)) (Int.toNat (↑(Int.toNat (g5 (Int.toNat x0) (0 : Nat))) : Int)) (5 : Nat))), (.i (Go.Proofs.Ythgagehgiooklaa.G.rsS (g4 (Int.toNat x0)) (h5 (Int.toNat x0)) (Int.toNat (↑(Int.toNat (g5 (Int.toNat x0) (0 : Nat))) : Int)) (6 : Nat))), (.i (Go.Proofs.Ythgagehgiooklaa.G.rsS (g4 (Int.toNat x0)) (h5 (Int.toNat x0)) (Int.toNat (↑(Int.toNat (g5 (Int.toNat x0) (0 : Nat))) : Int)) (7 : Nat))), (.i ((0 : Int)))])
 (.no))
 (.no)))
noncomputable def y_rload : Nat → Option Nat := (syOf3 [9, 14, 23] [] [])
noncomputable def TL_rload (l : List At) : Tr (List At) := T_rload (aI l 0) (aB l 1) (aI l 2) (aI l 3) (aRn l 4) (aRg l 4) (aRn l 5) (aRg l 5) (aMh l 5 0 10)
theorem e_rload (l : List At) : (call Try.prog Γ_RS2 y_rload noLoops 100 Try.f44 (mkV ish_rload l) (mkH ish_rload l)).bind (leafO 4 osh_rload) = TL_rload l := by kernel_rfl
noncomputable def F_rload : List At → Tr (List At) := TL_rload
theorem s_rload : SpecF Try.prog 44 (.read (locR ish_rload osh_rload F_rload)) :=
  spec_read (sy := y_rload) (fuel := 100) (Lp := noLoops) o_RS2 mixed ⟨Try.func44, by kernel_rfl, by kernel_rfl⟩ ish_rload osh_rload (by kernel_rfl) (noLoops_ok _) (hT_ways e_rload)
noncomputable def Γ_rload : Specs := upd Γ_RS2 44 (.read (locR ish_rload osh_rload F_rload))
theorem o_rload : SpecOK Try.prog Γ_rload := SpecOK.upd o_RS2 s_rload

/-! ### rstore -/

noncomputable def ish_rstore : FSh := ⟨[.v false [.p 0 0], .v false [.k (.n .i64)], .v false [.k (.n .i64)], .v false [.k (.n .u64)]], [.cells [.sw 1 8, .sw 2 1, .k .b, .k (.n .i64), .k (.n .i64)], .rows [.n .u64, .n .u64, .n .u64, .n .u64, .n .u64, .n .u64, .n .u64, .n .u64] true, .nrows [.n .i64] 0 [.n .i64, .n .u64, .b, .b, .b, .b, .b, .b, .b, .b] 3 false true, .no]⟩
noncomputable def osh_rstore : FSh := ⟨[.v false [.k (.n .i64)]], [.cells [.sw 1 8, .sw 2 1, .k .b, .k (.n .i64), .k (.n .i64)], .rows [.n .u64, .n .u64, .n .u64, .n .u64, .n .u64, .n .u64, .n .u64, .n .u64] true, .nrows [.n .i64] 0 [.n .i64, .n .u64, .b, .b, .b, .b, .b, .b, .b, .b] 4 false true, .no, .no]⟩
noncomputable def T_rstore (x0 : Int) (x1 : Int) (x2 : Int) (x3 : Bool) (x4 : Int) (x5 : Int) (n6 : Nat) (g6 : Nat → Nat → Int) (n7 : Nat) (g7 : Nat → Nat → Int) (h7 : Nat → Nat → Int) : Tr (List At) :=
 .br 14 (!Go.Proofs.Ythgagehgiooklaa.G.RMem.is { n := n6, S := g6, k := n7, G := g7, L := h7, off := x3, left := x4, count := x5 } x0)
 (.ok [(.i ((1 : Int))), (.b (x3)), (.i (x4)), (.i (x5)), (.r (n6) (g6)), (.q (n7) (g7) ((0 : Nat)) ((10 : Nat)) (h7))])
 (.br 18 (Decidable.decide (x1 < (0 : Int)))
 (.ok [(.i ((1 : Int))), (.b (x3)), (.i (x4)), (.i (x5)), (.r (n6) (g6)), (.q (n7) (g7) ((0 : Nat)) ((10 : Nat)) (h7))])
 (.br 21 (Decidable.decide (x1 > (7 : Int)))
 (.ok [(.i ((1 : Int))), (.b (x3)), (.i (x4)), (.i (x5)), (.r (n6) (g6)), (.q (n7) (g7) ((0 : Nat)) ((10 : Nat)) (h7))])
 (.br 0 (Go.Proofs.Ythgagehgiooklaa.G.pdec (Go.Proofs.Ythgagehgiooklaa.G.stepOk x4 x5))
 (.br 25 (Go.Proofs.Ythgagehgiooklaa.G.rcodI x3 x4 == (0 : Int))
 (.br 37 (Go.AM.within x0 n7)
 (.br 39 (Decidable.decide (Int.toNat (g7 (Int.toNat x0) (0 : Nat)) ≤ (1073741824 : Nat)))
 (.br 44 (Decidable.decide (Int.toNat (g7 (Int.toNat x0) (0 : Nat)) + (1 : Nat) ≤ (1073741824 : Nat)))
 (.br 45 (Go.AM.within x0 n7)
 (.br 0 (Bool.true)
 (.ok [(.i (Go.Proofs.Ythgagehgiooklaa.G.rcodI x3 x4)), (.b (Go.Proofs.Ythgagehgiooklaa.G.rpoB x3 x4)), (.i (Go.Proofs.Ythgagehgiooklaa.G.rleftI x3 x4)), (.i (Go.Proofs.Ythgagehgiooklaa.G.rcntI x3 x4 x5)), (.r (n6) (g6)), (.q (n7) (Go.AM.updG g7 (Int.toNat x0) (0 : Nat) (↑(Int.toNat (g7 (Int.toNat x0) (0 : Nat)) + (1 : Nat)) : Int)) ((0 : Nat)) ((10 : Nat)) (Go.AM.putM h7 (Int.toNat x0) (10 : Nat) (Go.AM.appG (fun (j c : Nat) => h7 (Int.toNat x0) (((0 : Nat) + j) * (10 : Nat) + c)) (Int.toNat (g7 (Int.toNat x0) (0 : Nat))) (Go.AM.rowsF [[x1, x2, (0 : Int), (0 : Int), (0 : Int), (0 : Int), (0 : Int), (0 : Int), (0 : Int), (0 : Int)]]))))])
 (.no))
 (.no))
 (.no))
 (.no))
 (.no))
 (.ok [(.i (Go.Proofs.Ythgagehgiooklaa.G.rcodI x3 x4)), (.b (Go.Proofs.Ythgagehgiooklaa.G.rpoB x3 x4)), (.i (Go.Proofs.Ythgagehgiooklaa.G.rleftI x3 x4)), (.i (Go.Proofs.Ythgagehgiooklaa.G.rcntI x3 x4 x5)), (.r (n6) (g6)), (.q (n7) (g7) ((0 : Nat)) ((10 : Nat)) (h7))]))
 (.no))))
noncomputable def y_rstore : Nat → Option Nat := (syOf3 [14, 18, 21, 25, 37, 39, 44, 45] [] [])
noncomputable def TL_rstore (l : List At) : Tr (List At) := T_rstore (aI l 0) (aI l 1) (aI l 2) (aB l 3) (aI l 4) (aI l 5) (aRn l 6) (aRg l 6) (aRn l 7) (aRg l 7) (aMh l 7 0 10)
theorem e_rstore (l : List At) : (call Try.prog Γ_rload y_rstore noLoops 100 Try.f38 (mkV ish_rstore l) (mkH ish_rstore l)).bind (leafO 4 osh_rstore) = TL_rstore l := by kernel_rfl
noncomputable def F_rstore : List At → Tr (List At) := TL_rstore
theorem s_rstore : SpecF Try.prog 38 (.eff (locF ish_rstore osh_rstore F_rstore)) :=
  spec_loc (sy := y_rstore) (fuel := 100) (Lp := noLoops) o_rload mixed ⟨Try.func38, by kernel_rfl, by kernel_rfl⟩ ish_rstore osh_rstore (noLoops_ok _) (hT_ways e_rstore)
noncomputable def Γ_rstore : Specs := upd Γ_rload 38 (.eff (locF ish_rstore osh_rstore F_rstore))
theorem o_rstore : SpecOK Try.prog Γ_rstore := SpecOK.upd o_rload s_rstore

/-! ### rfuse -/

noncomputable def ish_rfuse : FSh := ⟨[.v false [.p 0 0], .v false [.k (.n .i64)]], [.cells [.sw 1 8, .sw 2 1, .k .b, .k (.n .i64), .k (.n .i64)], .rows [.n .u64, .n .u64, .n .u64, .n .u64, .n .u64, .n .u64, .n .u64, .n .u64] true, .nrows [.n .i64] 0 [.n .i64, .n .u64, .b, .b, .b, .b, .b, .b, .b, .b] 3 false true, .no]⟩
noncomputable def osh_rfuse : FSh := ⟨[.tup []], [.cells [.sw 1 8, .sw 2 1, .k .b, .k (.n .i64), .k (.n .i64)], .rows [.n .u64, .n .u64, .n .u64, .n .u64, .n .u64, .n .u64, .n .u64, .n .u64] true, .nrows [.n .i64] 0 [.n .i64, .n .u64, .b, .b, .b, .b, .b, .b, .b, .b] 3 false true, .no]⟩
noncomputable def T_rfuse (x0 : Int) (x1 : Bool) (x2 : Int) (x3 : Int) (n4 : Nat) (g4 : Nat → Nat → Int) (n5 : Nat) (g5 : Nat → Nat → Int) (h5 : Nat → Nat → Int) : Tr (List At) :=
 .ok [(.b (x1)), (.i (if (-1 : Int) > x0 then (-1 : Int) else x0)), (.i (x3)), (.r (n4) (g4)), (.q (n5) (g5) ((0 : Nat)) ((10 : Nat)) (h5))]
noncomputable def y_rfuse : Nat → Option Nat := (syOf3 [] [] [])
noncomputable def TL_rfuse (l : List At) : Tr (List At) := T_rfuse (aI l 0) (aB l 1) (aI l 2) (aI l 3) (aRn l 4) (aRg l 4) (aRn l 5) (aRg l 5) (aMh l 5 0 10)
theorem e_rfuse (l : List At) : (call Try.prog Γ_rstore y_rfuse noLoops 100 Try.f42 (mkV ish_rfuse l) (mkH ish_rfuse l)).bind (leafO 4 osh_rfuse) = TL_rfuse l := by kernel_rfl
noncomputable def F_rfuse : List At → Tr (List At) := TL_rfuse
theorem s_rfuse : SpecF Try.prog 42 (.eff (locF ish_rfuse osh_rfuse F_rfuse)) :=
  spec_loc (sy := y_rfuse) (fuel := 100) (Lp := noLoops) o_rstore mixed ⟨Try.func42, by kernel_rfl, by kernel_rfl⟩ ish_rfuse osh_rfuse (noLoops_ok _) (hT_ways e_rfuse)
noncomputable def Γ_rfuse : Specs := upd Γ_rstore 42 (.eff (locF ish_rfuse osh_rfuse F_rfuse))
theorem o_rfuse : SpecOK Try.prog Γ_rfuse := SpecOK.upd o_rstore s_rfuse

/-! ### revict -/

noncomputable def ish_revict : FSh := ⟨[.v false [.p 0 0], .v false [.k (.n .i64)], .v false [.k (.n .i64)]], [.cells [.sw 1 8, .sw 2 1, .k .b, .k (.n .i64), .k (.n .i64)], .rows [.n .u64, .n .u64, .n .u64, .n .u64, .n .u64, .n .u64, .n .u64, .n .u64] true, .nrows [.n .i64] 0 [.n .i64, .n .u64, .b, .b, .b, .b, .b, .b, .b, .b] 3 false true, .no]⟩
noncomputable def osh_revict : FSh := ⟨[.v false [.k (.n .i64)]], [.cells [.sw 1 8, .sw 2 1, .k .b, .k (.n .i64), .k (.n .i64)], .rows [.n .u64, .n .u64, .n .u64, .n .u64, .n .u64, .n .u64, .n .u64, .n .u64] true, .nrows [.n .i64] 0 [.n .i64, .n .u64, .b, .b, .b, .b, .b, .b, .b, .b] 4 false true, .no, .no]⟩
noncomputable def T_revict (x0 : Int) (x1 : Int) (x2 : Bool) (x3 : Int) (x4 : Int) (n5 : Nat) (g5 : Nat → Nat → Int) (n6 : Nat) (g6 : Nat → Nat → Int) (h6 : Nat → Nat → Int) : Tr (List At) :=
 .br 11 (!Go.Proofs.Ythgagehgiooklaa.G.RMem.is { n := n5, S := g5, k := n6, G := g6, L := h6, off := x2, left := x3, count := x4 } x0)
 (.ok [(.i ((1 : Int))), (.b (x2)), (.i (x3)), (.i (x4)), (.r (n5) (g5)), (.q (n6) (g6) ((0 : Nat)) ((10 : Nat)) (h6))])
 (.br 14 (Decidable.decide (x1 < (0 : Int)))
 (.ok [(.i ((1 : Int))), (.b (x2)), (.i (x3)), (.i (x4)), (.r (n5) (g5)), (.q (n6) (g6) ((0 : Nat)) ((10 : Nat)) (h6))])
 (.br 18 (x2)
 (.ok [(.i ((4 : Int))), (.b (x2)), (.i (x3)), (.i (x4)), (.r (n5) (g5)), (.q (n6) (g6) ((0 : Nat)) ((10 : Nat)) (h6))])
 (.br 27 (Go.AM.within x0 n6)
 (.br 0 (Go.Proofs.Ythgagehgiooklaa.G.pdec (Go.Proofs.Ythgagehgiooklaa.G.RMem.hasOk { n := n5, S := g5, k := n6, G := g6, L := h6, off := x2, left := x3, count := x4 } x0 (if (↑(Int.toNat (g6 (Int.toNat x0) (0 : Nat))) : Int) < x1 then (↑(Int.toNat (g6 (Int.toNat x0) (0 : Nat))) : Int) else x1)))
 (.ok [(.i ((0 : Int))), (.b ((Go.Proofs.Ythgagehgiooklaa.G.RMem.suM { n := n5, S := g5, k := n6, G := g6, L := h6, off := x2, left := x3, count := x4 } x0 (if (↑(Int.toNat (g6 (Int.toNat x0) (0 : Nat))) : Int) < x1 then (↑(Int.toNat (g6 (Int.toNat x0) (0 : Nat))) : Int) else x1)).off)), (.i ((Go.Proofs.Ythgagehgiooklaa.G.RMem.suM { n := n5, S := g5, k := n6, G := g6, L := h6, off := x2, left := x3, count := x4 } x0 (if (↑(Int.toNat (g6 (Int.toNat x0) (0 : Nat))) : Int) < x1 then (↑(Int.toNat (g6 (Int.toNat x0) (0 : Nat))) : Int) else x1)).left)), (.i ((Go.Proofs.Ythgagehgiooklaa.G.RMem.suM { n := n5, S := g5, k := n6, G := g6, L := h6, off := x2, left := x3, count := x4 } x0 (if (↑(Int.toNat (g6 (Int.toNat x0) (0 : Nat))) : Int) < x1 then (↑(Int.toNat (g6 (Int.toNat x0) (0 : Nat))) : Int) else x1)).count)), (.r ((Go.Proofs.Ythgagehgiooklaa.G.RMem.suM { n := n5, S := g5, k := n6, G := g6, L := h6, off := x2, left := x3, count := x4 } x0 (if (↑(Int.toNat (g6 (Int.toNat x0) (0 : Nat))) : Int) < x1 then (↑(Int.toNat (g6 (Int.toNat x0) (0 : Nat))) : Int) else x1)).n) ((Go.Proofs.Ythgagehgiooklaa.G.RMem.suM { n := n5, S := g5, k := n6, G := g6, L := h6, off := x2, left := x3, count := x4 } x0 (if (↑(Int.toNat (g6 (Int.toNat x0) (0 : Nat))) : Int) < x1 then (↑(Int.toNat (g6 (Int.toNat x0) (0 : Nat))) : Int) else x1)).S)), (.q ((Go.Proofs.Ythgagehgiooklaa.G.RMem.suM { n := n5, S := g5, k := n6, G := g6, L := h6, off := x2, left := x3, count := x4 } x0 (if (↑(Int.toNat (g6 (Int.toNat x0) (0 : Nat))) : Int) < x1 then (↑(Int.toNat (g6 (Int.toNat x0) (0 : Nat))) : Int) else x1)).k) ((Go.Proofs.Ythgagehgiooklaa.G.RMem.suM { n := n5, S := g5, k := n6, G := g6, L := h6, off := x2, left := x3, count := x4 } x0 (if (↑(Int.toNat (g6 (Int.toNat x0) (0 : Nat))) : Int) < x1 then (↑(Int.toNat (g6 (Int.toNat x0) (0 : Nat))) : Int) else x1)).G) ((0 : Nat)) ((10 : Nat)) ((Go.Proofs.Ythgagehgiooklaa.G.RMem.suM { n := n5, S := g5, k := n6, G := g6, L := h6, off := x2, left := x3, count := x4 } x0 (if (↑(Int.toNat (g6 (Int.toNat x0) (0 : Nat))) : Int) < x1 then (↑(Int.toNat (g6 (Int.toNat x0) (0 : Nat))) : Int) else x1)).L))])
 (.no))
 (.no))))
noncomputable def y_revict : Nat → Option Nat := (syOf3 [11, 14, 18, 27] [] [])
noncomputable def TL_revict (l : List At) : Tr (List At) := T_revict (aI l 0) (aI l 1) (aB l 2) (aI l 3) (aI l 4) (aRn l 5) (aRg l 5) (aRn l 6) (aRg l 6) (aMh l 6 0 10)
theorem e_revict (l : List At) : (call Try.prog Γ_rfuse y_revict noLoops 100 Try.f41 (mkV ish_revict l) (mkH ish_revict l)).bind (leafO 4 osh_revict) = TL_revict l := by kernel_rfl
noncomputable def F_revict : List At → Tr (List At) := TL_revict
theorem s_revict : SpecF Try.prog 41 (.eff (locF ish_revict osh_revict F_revict)) :=
  spec_loc (sy := y_revict) (fuel := 100) (Lp := noLoops) o_rfuse mixed ⟨Try.func41, by kernel_rfl, by kernel_rfl⟩ ish_revict osh_revict (noLoops_ok _) (hT_ways e_revict)
noncomputable def Γ_revict : Specs := upd Γ_rfuse 41 (.eff (locF ish_revict osh_revict F_revict))
theorem o_revict : SpecOK Try.prog Γ_revict := SpecOK.upd o_rfuse s_revict

end Go.Proofs.Ythgagehgiooklaa.G
end

/-
  What functions of the seat compute, printed by a program from the explorer.
-/
section
namespace Go.Proofs.Ythgagehgiooklaa.G
open Go Go.AM Go.Proofs
/-! ### rof -/

noncomputable def ish_rof : FSh := ⟨[.v false [.vw 0 8]], [.rows [.n .u64, .n .u64, .n .u64, .n .u64, .n .u64, .n .u64, .n .u64, .n .u64] false]⟩
noncomputable def oshs_rof : List FSh := [⟨[.tup [(false, [.p 1 0]), (false, [.k (.n .i64)])]], [.no, .cells [.sw 2 8, .sw 3 1, .k .b, .k (.n .i64), .k (.n .i64)], .rows [.n .u64, .n .u64, .n .u64, .n .u64, .n .u64, .n .u64, .n .u64, .n .u64] true, .nrows [.n .i64] 0 [.n .i64, .n .u64, .b, .b, .b, .b, .b, .b, .b, .b] 4 false true, .no]⟩, ⟨[.tup [(false, [.pnil]), (false, [.k (.n .i64)])]], [.no]⟩]
noncomputable def T_rof (n0 : Nat) (g0 : Nat → Nat → Int) : Tr (Nat × List At) :=
 .br 7 (Decidable.decide ((↑n0 : Int) < (64 : Int)))
 (.ok ((1 : Nat), [(.i ((1 : Int)))]))
 (.br 11 (Decidable.decide ((↑n0 : Int) > (1024 : Int)))
 (.ok ((1 : Nat), [(.i ((1 : Int)))]))
 (.br 14 (Decidable.decide (n0 ≤ (1073741824 : Nat)))
 (.br 17 (Decidable.decide ((0 : Int) ≤ (↑n0 : Int)) && (↑n0 : Int) == (↑n0 : Int) && Decidable.decide ((↑n0 : Int) ≤ (1073741824 : Int)))
 (.ok ((0 : Nat), [(.i ((0 : Int))), (.b (Bool.false)), (.i ((-1 : Int))), (.i ((0 : Int))), (.r (n0) (fun (j c : Nat) => g0 ((0 : Nat) + j) c)), (.q (Int.toNat (↑n0 : Int)) (fun (_ _ : Nat) => (0 : Int)) ((0 : Nat)) ((10 : Nat)) (fun (_ _ : Nat) => (0 : Int)))]))
 (.no))
 (.no)))
noncomputable def y_rof : Nat → Option Nat := (syOf3 [7, 11, 14, 17] [] [])
noncomputable def TL_rof (l : List At) : Tr (Nat × List At) := T_rof (aRn l 0) (aRg l 0)
theorem e_rof (l : List At) : (call Try.prog Γ_RS2 y_rof noLoops 100 Try.f35 (mkV ish_rof l) (mkH ish_rof l)).bind (leafOs 1 0 oshs_rof) = TL_rof l := by kernel_rfl
noncomputable def F_rof : List At → Tr (Nat × List At) := TL_rof
theorem s_rof : SpecF Try.prog 35 (.eff (locFs ish_rof oshs_rof F_rof)) :=
  spec_locs (sy := y_rof) (fuel := 100) (Lp := noLoops) o_RS2 mixed ⟨Try.func35, by kernel_rfl, by kernel_rfl⟩ ish_rof oshs_rof (noLoops_ok _) (hT_waysS e_rof)
noncomputable def Γ_rof : Specs := upd Γ_RS2 35 (.eff (locFs ish_rof oshs_rof F_rof))
theorem o_rof : SpecOK Try.prog Γ_rof := SpecOK.upd o_RS2 s_rof

/-! ### rnew -/

noncomputable def ish_rnew : FSh := ⟨[.v false [.k (.n .i64)]], []⟩
noncomputable def oshs_rnew : List FSh := [⟨[.tup [(false, [.p 0 0]), (false, [.k (.n .i64)])]], [.cells [.sw 1 8, .sw 2 1, .k .b, .k (.n .i64), .k (.n .i64)], .rows [.n .u64, .n .u64, .n .u64, .n .u64, .n .u64, .n .u64, .n .u64, .n .u64] true, .nrows [.n .i64] 0 [.n .i64, .n .u64, .b, .b, .b, .b, .b, .b, .b, .b] 3 false true, .no]⟩, ⟨[.tup [(false, [.pnil]), (false, [.k (.n .i64)])]], []⟩]
noncomputable def T_rnew (x0 : Int) : Tr (Nat × List At) :=
 .br 6 (Decidable.decide (x0 < (64 : Int)))
 (.ok ((1 : Nat), [(.i ((1 : Int)))]))
 (.br 9 (Decidable.decide (x0 > (1024 : Int)))
 (.ok ((1 : Nat), [(.i ((1 : Int)))]))
 (.br 11 (Decidable.decide ((0 : Int) ≤ x0) && x0 == x0 && Decidable.decide (x0 ≤ (1073741824 : Int)))
 (.br 7 (Decidable.decide ((↑(Int.toNat x0) : Int) < (64 : Int)))
 (.ok ((1 : Nat), [(.i ((1 : Int)))]))
 (.br 11 (Decidable.decide ((↑(Int.toNat x0) : Int) > (1024 : Int)))
 (.ok ((1 : Nat), [(.i ((1 : Int)))]))
 (.br 14 (Decidable.decide (Int.toNat x0 ≤ (1073741824 : Nat)))
 (.br 17 (Decidable.decide ((0 : Int) ≤ (↑(Int.toNat x0) : Int)) && (↑(Int.toNat x0) : Int) == (↑(Int.toNat x0) : Int) && Decidable.decide ((↑(Int.toNat x0) : Int) ≤ (1073741824 : Int)))
 (.ok ((0 : Nat), [(.i ((0 : Int))), (.b (Bool.false)), (.i ((-1 : Int))), (.i ((0 : Int))), (.r (Int.toNat x0) (fun (_ _ : Nat) => (0 : Int))), (.q (Int.toNat (↑(Int.toNat x0) : Int)) (fun (_ _ : Nat) => (0 : Int)) ((0 : Nat)) ((10 : Nat)) (fun (_ _ : Nat) => (0 : Int)))]))
 (.no))
 (.no))))
 (.no)))
noncomputable def y_rnew : Nat → Option Nat := (syOf3 [6, 9, 11, 7, 14, 17] [] [])
noncomputable def TL_rnew (l : List At) : Tr (Nat × List At) := T_rnew (aI l 0)
theorem e_rnew (l : List At) : (call Try.prog Γ_rof y_rnew noLoops 100 Try.f27 (mkV ish_rnew l) (mkH ish_rnew l)).bind (leafOs 0 0 oshs_rnew) = TL_rnew l := by kernel_rfl
noncomputable def F_rnew : List At → Tr (Nat × List At) := TL_rnew
theorem s_rnew : SpecF Try.prog 27 (.eff (locFs ish_rnew oshs_rnew F_rnew)) :=
  spec_locs (sy := y_rnew) (fuel := 100) (Lp := noLoops) o_rof mixed ⟨Try.func27, by kernel_rfl, by kernel_rfl⟩ ish_rnew oshs_rnew (noLoops_ok _) (hT_waysS e_rnew)
noncomputable def Γ_rnew : Specs := upd Γ_rof 27 (.eff (locFs ish_rnew oshs_rnew F_rnew))
theorem o_rnew : SpecOK Try.prog Γ_rnew := SpecOK.upd o_rof s_rnew

end Go.Proofs.Ythgagehgiooklaa.G
end

/-
  What functions of the seat compute, printed by a program from the explorer.
-/
section
namespace Go.Proofs.Ythgagehgiooklaa.G
open Go Go.AM Go.Proofs
/-! ### the loop at 6 of rflush -/

noncomputable def lsh_rflush_6 : FSh := ⟨[.v false [.p 0 0], .v false [.k (.n .i64)], .v false [.k (.n .i64)], .any, .any, .any, .any, .v false [.k (.n .i64)], .v false [.k (.n .i64)], .any, .any, .any, .any, .any, .any, .any, .any, .any, .any, .any, .any, .any, .any, .any, .any, .any, .any, .any, .any, .any, .any, .any, .any, .any, .any, .any, .any, .any, .any, .any, .any, .any, .any, .any, .any, .any, .any, .any, .any, .any], [.cells [.sw 1 8, .sw 2 1, .k .b, .k (.n .i64), .k (.n .i64)], .rows [.n .u64, .n .u64, .n .u64, .n .u64, .n .u64, .n .u64, .n .u64, .n .u64] true, .nrows [.n .i64] 0 [.n .i64, .n .u64, .b, .b, .b, .b, .b, .b, .b, .b] 3 false true, .no]⟩
noncomputable def xsh_rflush_6_0 : FSh := ⟨[.any, .any, .any, .any, .any, .any, .any, .v false [.k (.n .i64)], .any, .any, .any, .any, .any, .any, .any, .any, .any, .any, .any, .any, .any, .any, .any, .any, .any, .any, .any, .any, .any, .any, .any, .any, .any, .any, .any, .any, .any, .any, .any, .any, .any, .any, .any, .any, .any, .any, .any, .any, .any, .any], [.cells [.sw 1 8, .sw 2 1, .k .b, .k (.n .i64), .k (.n .i64)], .rows [.n .u64, .n .u64, .n .u64, .n .u64, .n .u64, .n .u64, .n .u64, .n .u64] true, .nrows [.n .i64] 0 [.n .i64, .n .u64, .b, .b, .b, .b, .b, .b, .b, .b] 3 false true, .no]⟩
noncomputable def xs_rflush_6 : Exs := fun e => match e with
  | .normal => some lsh_rflush_6
  | .exit n => (match Nat.beq n 0 with | true => some xsh_rflush_6_0 | false => none)
  | .ret => none
noncomputable def B_rflush_6 (x0 : Int) (x1 : Int) (x2 : Int) (x3 : Int) (x4 : Bool) (x5 : Int) (x6 : Int) (n7 : Nat) (g7 : Nat → Nat → Int) (n8 : Nat) (g8 : Nat → Nat → Int) (h8 : Nat → Nat → Int) : Tr (Ex × List At) :=
 .br 31 (Go.AM.within x1 n8)
 (.br 34 (Decidable.decide (x3 < (↑(Int.toNat (g8 (Int.toNat x1) (0 : Nat))) : Int)))
 (.br 42 (Go.AM.within x1 n8)
 (.br 46 (Go.AM.within x3 (Int.toNat (g8 (Int.toNat x1) (0 : Nat))))
 (.br 200048 (Go.AM.within x0 (8 : Nat))
 (.ok (.normal, [(.i (x0)), (.i (x1)), (.i (x2)), (.i (Go.IntKind.wrap Go.IntKind.i64 (x3 + (1 : Int)))), (.b (x4)), (.i (x5)), (.i (x6)), (.r (n7) (g7)), (.q (n8) (g8) ((0 : Nat)) ((10 : Nat)) (Go.AM.updG h8 (Int.toNat x1) (Int.toNat x3 * (10 : Nat) + ((2 : Nat) + Int.toNat x0 * (1 : Nat))) (1 : Int)))]))
 (.no))
 (.no))
 (.no))
 (.ok (.exit 0, [(.i (x2)), (.b (x4)), (.i (x5)), (.i (x6)), (.r (n7) (g7)), (.q (n8) (g8) ((0 : Nat)) ((10 : Nat)) (h8))])))
 (.no)
noncomputable def y_rflush_6 : Nat → Option Nat := (syOf3 [31, 34, 42, 46] [] [48])
noncomputable def BL_rflush_6 (l : List At) : Tr (Ex × List At) := B_rflush_6 (aI l 0) (aI l 1) (aI l 2) (aI l 3) (aB l 4) (aI l 5) (aI l 6) (aRn l 7) (aRg l 7) (aRn l 8) (aRg l 8) (aMh l 8 0 10)
theorem eB_rflush_6 (l : List At) : (exec Try.prog Γ_RS2 y_rflush_6 noLoops 100 (loopAt Try.f39 6) ⟨mkV lsh_rflush_6 l, mkH lsh_rflush_6 l⟩).bind (leafL 4 xs_rflush_6) = BL_rflush_6 l := by kernel_rfl
/- by hand: O_rflush_6 (x0 : Int) (x1 : Int) (x2 : Int) (x3 : Int) (x4 : Bool) (x5 : Int) (x6 : Int) (n7 : Nat) (g7 : Nat → Nat → Int) (n8 : Nat) (g8 : Nat → Nat → Int) (h8 : Nat → Nat → Int) : Tr (Ex × List At); OL_rflush_6 (l) := O_rflush_6 (aI l 0) (aI l 1) (aI l 2) (aI l 3) (aB l 4) (aI l 5) (aI l 6) (aRn l 7) (aRg l 7) (aRn l 8) (aRg l 8) (aMh l 8 0 10); μ_rflush_6 : List At → Nat; rd_rflush_6 : ∀ l r, (OL_rflush_6 l).val = some r → RoundA BL_rflush_6 OL_rflush_6 μ_rflush_6 l r -/

end Go.Proofs.Ythgagehgiooklaa.G
end

/-
  The loop of the reference's Flush.
-/
section
namespace Go.Proofs.Ythgagehgiooklaa.G
open Go Go.AM Go.Proofs

def rflF (hr : Nat → Int) (core a m : Nat) : Nat → Int := fun k => if a ≤ k / 10 ∧ k / 10 < a + m ∧ k % 10 = 2 + core then 1 else hr k
theorem rflF_end (hr : Nat → Int) (core a : Nat) : rflF hr core a 0 = hr := funext fun _ => if_neg (by omega)
theorem rflF_step (hr : Nat → Int) (core a m : Nat) (hc : core < 8) : rflF (fun k => if k = a * 10 + (2 + core) then 1 else hr k) core (a + 1) m = rflF hr core a (m + 1) := by
  funext k
  unfold rflF
  by_cases h : a + 1 ≤ k / 10 ∧ k / 10 < a + 1 + m ∧ k % 10 = 2 + core
  · rw [if_pos h, if_pos (by omega)]
  · rw [if_neg h]
    show (if k = a * 10 + (2 + core) then 1 else hr k) = _
    by_cases h2 : k = a * 10 + (2 + core)
    · rw [if_pos h2, if_pos (by omega)]
    · rw [if_neg h2, if_neg (by omega)]
theorem rflF_all (hr : Nat → Int) (core m : Nat) : rflF hr core 0 m = rflR hr m core := by
  funext k
  unfold rflF rflR
  by_cases h : k / 10 < m ∧ k % 10 = 2 + core
  · rw [if_pos h, if_pos (by omega)]
  · rw [if_neg h, if_neg (by omega)]

def rpF (x0 x1 x3 : Int) (n : Nat) (g : Nat → Nat → Int) : Prop := (0 ≤ x0 ∧ x0 < 8) ∧ (0 ≤ x1 ∧ x1 < n) ∧ 0 ≤ x3 ∧ x3 ≤ g x1.toNat 0 ∧ g x1.toNat 0 ≤ 1000000

noncomputable def O_rflush_6 (x0 x1 x2 x3 : Int) (x4 : Bool) (x5 x6 : Int) (n7 : Nat) (g7 : Nat → Nat → Int) (n8 : Nat) (g8 h8 : Nat → Nat → Int) : Tr (Ex × List At) :=
  .br 0 (pdec (rpF x0 x1 x3 n8 g8)) (.ok (.exit 0, [.i x2, .b x4, .i x5, .i x6, .r n7 g7, .q n8 g8 0 10 (updR h8 x1.toNat (rflF (h8 x1.toNat) x0.toNat x3.toNat (g8 x1.toNat 0 - x3).toNat))])) .no
noncomputable def OL_rflush_6 (l : List At) : Tr (Ex × List At) := O_rflush_6 (aI l 0) (aI l 1) (aI l 2) (aI l 3) (aB l 4) (aI l 5) (aI l 6) (aRn l 7) (aRg l 7) (aRn l 8) (aRg l 8) (aMh l 8 0 10)
def μ_rflush_6 (l : List At) : Nat := (aRg l 8 (aI l 1).toNat 0 - aI l 3).toNat

theorem rd_rflush_6 : ∀ l r, (OL_rflush_6 l).val = some r → RoundS BL_rflush_6 OL_rflush_6 μ_rflush_6 l r := by
  intro l r h
  obtain ⟨hc, h⟩ := guard_val h
  obtain ⟨⟨c0, c1⟩, ⟨c2, c3⟩, c4, c5, c6⟩ := of_pdec hc
  unfold RoundS BL_rflush_6 B_rflush_6
  generalize hx0 : aI l 0 = x0 at *
  generalize hx1 : aI l 1 = x1 at *
  generalize hx3 : aI l 3 = x3 at *
  generalize hn : aRn l 8 = n at *
  generalize hg : aRg l 8 = g at *
  generalize hh : aMh l 8 0 10 = hm at *
  refine brW (fun _ => ?_) (fun hh => by exfalso; omega)
  rw [Int.toNat_of_nonneg (a := g x1.toNat 0) (by omega)]
  refine brD (fun h1 => ?_) (fun h1 => ?_)
  · have hw : IntKind.i64.wrap (x3 + 1) = x3 + 1 := wrap_i64 (by omega) (by omega)
    refine brW (fun _ => brT (by simp [within]; omega) (brT (by simp [within]; omega) ?_)) (fun hh => by exfalso; omega)
    have hμ : (g x1.toNat 0 - (x3 + 1)).toNat < μ_rflush_6 l := by unfold μ_rflush_6; rw [hg, hx1, hx3]; omega
    have hq : rpF x0 x1 (x3 + 1) n g := ⟨⟨c0, c1⟩, ⟨c2, c3⟩, by omega, by omega, c6⟩
    have e1 : (g x1.toNat 0 - x3).toNat = (g x1.toNat 0 - (x3 + 1)).toNat + 1 := by omega
    have e3 : (x3 + 1).toNat = x3.toNat + 1 := by omega
    rw [e1, ← rflF_step _ _ _ _ (by omega), ← e3] at h
    rw [hw, Nat.mul_one, updG_row]
    generalize hh' : updR hm x1.toNat (fun c' => if c' = x3.toNat * 10 + (2 + x0.toNat) then 1 else hm x1.toNat c') = h' at *
    have e4 : h' x1.toNat = fun k => if k = x3.toNat * 10 + (2 + x0.toNat) then 1 else hm x1.toNat k := by rw [← hh', updR_self]
    have e5 : ∀ r, updR hm x1.toNat r = updR h' x1.toNat r := fun r => by rw [← hh', updR_updR]
    rw [← e4, e5] at h
    exact on_ _ r (AtsEq.refl _) hμ ((br_t (g := 0) (pdec_yes hq)).trans h) rfl (AtsEq.refl _)
  · have e : (g x1.toNat 0 - x3).toNat = 0 := by omega
    rw [e, rflF_end, updR_id] at h
    have hr := val_ok h
    subst hr
    exact out_ (by simp) rfl (AtsEq.refl _)
end Go.Proofs.Ythgagehgiooklaa.G
end

/-
  What functions of the seat compute, printed by a program from the explorer.
-/
section
namespace Go.Proofs.Ythgagehgiooklaa.G
open Go Go.AM Go.Proofs
theorem f_rflush_6 : LoopF Try.prog 4 (loopAt Try.f39 6) (loopFn 4 lsh_rflush_6 xs_rflush_6 OL_rflush_6) :=
  loop_sat (sy := y_rflush_6) (fuel := 100) (Lp := noLoops) o_RS2 mixed (loopsOK_at (noLoops_ok _) 6) rfl eB_rflush_6 rd_rflush_6
noncomputable def Lp_rflush_6 : Loops := Loops.set noLoops 6 (loopFn 4 lsh_rflush_6 xs_rflush_6 OL_rflush_6)
theorem lk_rflush_6 : LoopsFn Try.prog 4 Lp_rflush_6 Try.f39 := loopsFn_set (noLoops_ok _) (by kernel_rfl) f_rflush_6

/-! ### rflush -/

noncomputable def ish_rflush : FSh := ⟨[.v false [.p 0 0], .v false [.k (.n .i64)], .v false [.k (.n .i64)]], [.cells [.sw 1 8, .sw 2 1, .k .b, .k (.n .i64), .k (.n .i64)], .rows [.n .u64, .n .u64, .n .u64, .n .u64, .n .u64, .n .u64, .n .u64, .n .u64] true, .nrows [.n .i64] 0 [.n .i64, .n .u64, .b, .b, .b, .b, .b, .b, .b, .b] 3 false true, .no]⟩
noncomputable def osh_rflush : FSh := ⟨[.v false [.k (.n .i64)]], [.cells [.sw 1 8, .sw 2 1, .k .b, .k (.n .i64), .k (.n .i64)], .rows [.n .u64, .n .u64, .n .u64, .n .u64, .n .u64, .n .u64, .n .u64, .n .u64] true, .nrows [.n .i64] 0 [.n .i64, .n .u64, .b, .b, .b, .b, .b, .b, .b, .b] 3 false true, .no]⟩
noncomputable def T_rflush (x0 : Int) (x1 : Int) (x2 : Bool) (x3 : Int) (x4 : Int) (n5 : Nat) (g5 : Nat → Nat → Int) (n6 : Nat) (g6 : Nat → Nat → Int) (h6 : Nat → Nat → Int) : Tr (List At) :=
 .br 11 (Decidable.decide (x0 < (0 : Int)))
 (.ok [(.i ((1 : Int))), (.b (x2)), (.i (x3)), (.i (x4)), (.r (n5) (g5)), (.q (n6) (g6) ((0 : Nat)) ((10 : Nat)) (h6))])
 (.br 15 (Decidable.decide (x0 > (7 : Int)))
 (.ok [(.i ((1 : Int))), (.b (x2)), (.i (x3)), (.i (x4)), (.r (n5) (g5)), (.q (n6) (g6) ((0 : Nat)) ((10 : Nat)) (h6))])
 (.br 20 (!Go.Proofs.Ythgagehgiooklaa.G.RMem.is { n := n5, S := g5, k := n6, G := g6, L := h6, off := x2, left := x3, count := x4 } x1)
 (.ok [(.i ((1 : Int))), (.b (x2)), (.i (x3)), (.i (x4)), (.r (n5) (g5)), (.q (n6) (g6) ((0 : Nat)) ((10 : Nat)) (h6))])
 (.br 0 (Go.Proofs.Ythgagehgiooklaa.G.pdec (Go.Proofs.Ythgagehgiooklaa.G.stepOk x3 x4))
 (.br 24 (Go.Proofs.Ythgagehgiooklaa.G.rcodI x2 x3 == (0 : Int))
 (.br 0 (Go.Proofs.Ythgagehgiooklaa.G.pdec (Go.Proofs.Ythgagehgiooklaa.G.rpF x0 x1 (0 : Int) n6 g6))
 (.ok [(.i (Go.Proofs.Ythgagehgiooklaa.G.rcodI x2 x3)), (.b (Go.Proofs.Ythgagehgiooklaa.G.rpoB x2 x3)), (.i (Go.Proofs.Ythgagehgiooklaa.G.rleftI x2 x3)), (.i (Go.Proofs.Ythgagehgiooklaa.G.rcntI x2 x3 x4)), (.r (n5) (g5)), (.q (n6) (g6) ((0 : Nat)) ((10 : Nat)) (Go.Proofs.Ythgagehgiooklaa.G.updR h6 (Int.toNat x1) (Go.Proofs.Ythgagehgiooklaa.G.rflF (h6 (Int.toNat x1)) (Int.toNat x0) (0 : Nat) (Int.toNat (g6 (Int.toNat x1) (0 : Nat) - (0 : Int))))))])
 (.no))
 (.ok [(.i (Go.Proofs.Ythgagehgiooklaa.G.rcodI x2 x3)), (.b (Go.Proofs.Ythgagehgiooklaa.G.rpoB x2 x3)), (.i (Go.Proofs.Ythgagehgiooklaa.G.rleftI x2 x3)), (.i (Go.Proofs.Ythgagehgiooklaa.G.rcntI x2 x3 x4)), (.r (n5) (g5)), (.q (n6) (g6) ((0 : Nat)) ((10 : Nat)) (h6))]))
 (.no))))
noncomputable def y_rflush : Nat → Option Nat := (syOf3 [11, 15, 20, 24] [] [])
noncomputable def TL_rflush (l : List At) : Tr (List At) := T_rflush (aI l 0) (aI l 1) (aB l 2) (aI l 3) (aI l 4) (aRn l 5) (aRg l 5) (aRn l 6) (aRg l 6) (aMh l 6 0 10)
theorem e_rflush (l : List At) : (call Try.prog Γ_RS2 y_rflush Lp_rflush_6 100 Try.f39 (mkV ish_rflush l) (mkH ish_rflush l)).bind (leafO 4 osh_rflush) = TL_rflush l := by kernel_rfl
noncomputable def F_rflush : List At → Tr (List At) := TL_rflush
theorem s_rflush : SpecF Try.prog 39 (.eff (locF ish_rflush osh_rflush F_rflush)) :=
  spec_loc (sy := y_rflush) (fuel := 100) (Lp := Lp_rflush_6) o_RS2 mixed ⟨Try.func39, by kernel_rfl, by kernel_rfl⟩ ish_rflush osh_rflush lk_rflush_6 (hT_ways e_rflush)
noncomputable def Γ_rflush : Specs := upd Γ_RS2 39 (.eff (locF ish_rflush osh_rflush F_rflush))
theorem o_rflush : SpecOK Try.prog Γ_rflush := SpecOK.upd o_RS2 s_rflush

end Go.Proofs.Ythgagehgiooklaa.G
end

/-
  What functions of the seat compute, printed by a program from the explorer.
-/
section
namespace Go.Proofs.Ythgagehgiooklaa.G
open Go Go.AM Go.Proofs
/-! ### the loop at 11 of rfence -/

noncomputable def lsh_rfence_11 : FSh := ⟨[.v false [.p 0 0], .v false [.k (.n .i64)], .any, .any, .any, .any, .v false [.k (.n .i64)], .v false [.k (.n .i64)], .v false [.k (.n .i64)], .any, .any, .any, .any, .any, .any, .any, .any, .any, .any, .any, .any, .any, .any, .any, .any, .any, .any, .any, .any, .any, .any, .any, .any, .any, .any, .any, .any, .any, .any, .any, .any, .any, .any, .any, .any, .any, .any, .any, .any, .any, .any, .any, .any, .any, .any, .any, .any, .any, .any, .any, .any, .any], [.cells [.sw 1 8, .sw 2 1, .k .b, .k (.n .i64), .k (.n .i64)], .rows [.n .u64, .n .u64, .n .u64, .n .u64, .n .u64, .n .u64, .n .u64, .n .u64] true, .nrows [.n .i64] 0 [.n .i64, .n .u64, .b, .b, .b, .b, .b, .b, .b, .b] 4 false true, .no, .no]⟩
noncomputable def xsh_rfence_11_0 : FSh := ⟨[.v false [.p 0 0], .v false [.k (.n .i64)], .any, .any, .any, .any, .v false [.k (.n .i64)], .v false [.k (.n .i64)], .any, .any, .any, .any, .any, .any, .any, .any, .any, .any, .any, .any, .any, .any, .any, .any, .any, .any, .any, .any, .any, .any, .any, .any, .any, .any, .any, .any, .any, .any, .any, .any, .any, .any, .any, .any, .any, .any, .any, .any, .any, .any, .any, .any, .any, .any, .any, .any, .any, .any, .any, .any, .any, .any], [.cells [.sw 1 8, .sw 2 1, .k .b, .k (.n .i64), .k (.n .i64)], .rows [.n .u64, .n .u64, .n .u64, .n .u64, .n .u64, .n .u64, .n .u64, .n .u64] true, .nrows [.n .i64] 0 [.n .i64, .n .u64, .b, .b, .b, .b, .b, .b, .b, .b] 4 false true, .no, .no]⟩
noncomputable def xs_rfence_11 : Exs := fun e => match e with
  | .normal => some lsh_rfence_11
  | .exit n => (match Nat.beq n 2 with | true => some xsh_rfence_11_0 | false => none)
  | .ret => none
noncomputable def B_rfence_11 (x0 : Int) (x1 : Int) (x2 : Int) (x3 : Int) (x4 : Bool) (x5 : Int) (x6 : Int) (n7 : Nat) (g7 : Nat → Nat → Int) (n8 : Nat) (g8 : Nat → Nat → Int) (h8 : Nat → Nat → Int) : Tr (Ex × List At) :=
 .br 35 (Go.AM.within x1 n8)
 (.br 38 (Decidable.decide (x3 < (↑(Int.toNat (g8 (Int.toNat x1) (0 : Nat))) : Int)))
 (.br 46 (Go.AM.within x1 n8)
 (.br 50 (Go.AM.within x3 (Int.toNat (g8 (Int.toNat x1) (0 : Nat))))
 (.br 200052 (Go.AM.within x0 (8 : Nat))
 (.br 53 (h8 (Int.toNat x1) (Int.toNat x3 * (10 : Nat) + ((2 : Nat) + Int.toNat x0 * (1 : Nat))) != (0 : Int))
 (.ok (.normal, [(.i (x0)), (.i (x1)), (.i (Go.IntKind.wrap Go.IntKind.i64 (x3 + (1 : Int)))), (.i (Go.IntKind.wrap Go.IntKind.i64 (x3 + (1 : Int)))), (.b (x4)), (.i (x5)), (.i (x6)), (.r (n7) (g7)), (.q (n8) (g8) ((0 : Nat)) ((10 : Nat)) (h8))]))
 (.ok (.normal, [(.i (x0)), (.i (x1)), (.i (x2)), (.i (Go.IntKind.wrap Go.IntKind.i64 (x3 + (1 : Int)))), (.b (x4)), (.i (x5)), (.i (x6)), (.r (n7) (g7)), (.q (n8) (g8) ((0 : Nat)) ((10 : Nat)) (h8))])))
 (.no))
 (.no))
 (.no))
 (.ok (.exit 2, [(.i (x0)), (.i (x1)), (.i (x2)), (.b (x4)), (.i (x5)), (.i (x6)), (.r (n7) (g7)), (.q (n8) (g8) ((0 : Nat)) ((10 : Nat)) (h8))])))
 (.no)
noncomputable def y_rfence_11 : Nat → Option Nat := (syOf3 [35, 38, 46, 50, 53] [] [52])
noncomputable def BL_rfence_11 (l : List At) : Tr (Ex × List At) := B_rfence_11 (aI l 0) (aI l 1) (aI l 2) (aI l 3) (aB l 4) (aI l 5) (aI l 6) (aRn l 7) (aRg l 7) (aRn l 8) (aRg l 8) (aMh l 8 0 10)
theorem eB_rfence_11 (l : List At) : (exec Try.prog Γ_RS2 y_rfence_11 noLoops 100 (loopAt Try.f40 11) ⟨mkV lsh_rfence_11 l, mkH lsh_rfence_11 l⟩).bind (leafL 4 xs_rfence_11) = BL_rfence_11 l := by kernel_rfl
/- by hand: O_rfence_11 (x0 : Int) (x1 : Int) (x2 : Int) (x3 : Int) (x4 : Bool) (x5 : Int) (x6 : Int) (n7 : Nat) (g7 : Nat → Nat → Int) (n8 : Nat) (g8 : Nat → Nat → Int) (h8 : Nat → Nat → Int) : Tr (Ex × List At); OL_rfence_11 (l) := O_rfence_11 (aI l 0) (aI l 1) (aI l 2) (aI l 3) (aB l 4) (aI l 5) (aI l 6) (aRn l 7) (aRg l 7) (aRn l 8) (aRg l 8) (aMh l 8 0 10); μ_rfence_11 : List At → Nat; rd_rfence_11 : ∀ l r, (OL_rfence_11 l).val = some r → RoundA BL_rfence_11 OL_rfence_11 μ_rfence_11 l r -/

end Go.Proofs.Ythgagehgiooklaa.G
end

/-
  The inner loop of the reference's Fence: how many stores a core has flushed.
-/
section
namespace Go.Proofs.Ythgagehgiooklaa.G
open Go Go.AM Go.Proofs

def rlastG (hr : Nat → Int) (core : Nat) : (a m : Nat) → Int → Int
  | _, 0, cur => cur
  | a, m + 1, cur => rlastG hr core (a + 1) m (if hr (a * 10 + (2 + core)) ≠ 0 then (a : Int) + 1 else cur)
theorem rlastG_succ {hr : Nat → Int} {core : Nat} : ∀ (m a : Nat) (cur : Int), rlastG hr core a (m + 1) cur = if hr ((a + m) * 10 + (2 + core)) ≠ 0 then ((a + m : Nat) : Int) + 1 else rlastG hr core a m cur
  | 0, a, cur => rfl
  | m + 1, a, cur => by
    rw [rlastG, rlastG_succ m (a + 1), show a + 1 + m = a + (m + 1) by omega]
    rfl
theorem rlastG_all (hr : Nat → Int) (core : Nat) : ∀ m, rlastG hr core 0 m 0 = (lastF hr core m : Int)
  | 0 => rfl
  | m + 1 => by
    rw [rlastG_succ, lastF, Nat.zero_add, rlastG_all hr core m]
    split <;> simp_all

def rpI (x0 x1 x3 : Int) (n : Nat) (g : Nat → Nat → Int) : Prop := (0 ≤ x0 ∧ x0 < 8) ∧ (0 ≤ x1 ∧ x1 < n) ∧ 0 ≤ x3 ∧ x3 ≤ g x1.toNat 0 ∧ g x1.toNat 0 ≤ 1000000

noncomputable def O_rfence_11 (x0 x1 x2 x3 : Int) (x4 : Bool) (x5 x6 : Int) (n7 : Nat) (g7 : Nat → Nat → Int) (n8 : Nat) (g8 h8 : Nat → Nat → Int) : Tr (Ex × List At) :=
  .br 0 (pdec (rpI x0 x1 x3 n8 g8)) (.ok (.exit 2, [.i x0, .i x1, .i (rlastG (h8 x1.toNat) x0.toNat x3.toNat (g8 x1.toNat 0 - x3).toNat x2), .b x4, .i x5, .i x6, .r n7 g7, .q n8 g8 0 10 h8])) .no
noncomputable def OL_rfence_11 (l : List At) : Tr (Ex × List At) := O_rfence_11 (aI l 0) (aI l 1) (aI l 2) (aI l 3) (aB l 4) (aI l 5) (aI l 6) (aRn l 7) (aRg l 7) (aRn l 8) (aRg l 8) (aMh l 8 0 10)
def μ_rfence_11 (l : List At) : Nat := (aRg l 8 (aI l 1).toNat 0 - aI l 3).toNat

theorem rd_rfence_11 : ∀ l r, (OL_rfence_11 l).val = some r → RoundS BL_rfence_11 OL_rfence_11 μ_rfence_11 l r := by
  intro l r h
  obtain ⟨hc, h⟩ := guard_val h
  obtain ⟨⟨c0, c1⟩, ⟨c2, c3⟩, c4, c5, c6⟩ := of_pdec hc
  unfold RoundS BL_rfence_11 B_rfence_11
  generalize hx0 : aI l 0 = x0 at *
  generalize hx1 : aI l 1 = x1 at *
  generalize hx2 : aI l 2 = x2 at *
  generalize hx3 : aI l 3 = x3 at *
  generalize hn : aRn l 8 = n at *
  generalize hg : aRg l 8 = g at *
  generalize hh : aMh l 8 0 10 = hm at *
  refine brW (fun _ => ?_) (fun hh => by exfalso; omega)
  rw [Int.toNat_of_nonneg (a := g x1.toNat 0) (by omega)]
  refine brD (fun h1 => ?_) (fun h1 => ?_)
  · have hw : IntKind.i64.wrap (x3 + 1) = x3 + 1 := wrap_i64 (by omega) (by omega)
    have hμ : (g x1.toNat 0 - (x3 + 1)).toNat < μ_rfence_11 l := by unfold μ_rfence_11; rw [hg, hx1, hx3]; omega
    have hq : rpI x0 x1 (x3 + 1) n g := ⟨⟨c0, c1⟩, ⟨c2, c3⟩, by omega, by omega, c6⟩
    have e1 : (g x1.toNat 0 - x3).toNat = (g x1.toNat 0 - (x3 + 1)).toNat + 1 := by omega
    have e3 : (x3 + 1).toNat = x3.toNat + 1 := by omega
    have e4 : ((x3.toNat : Nat) : Int) = x3 := by omega
    rw [e1, rlastG, ← e3, e4] at h
    refine brW (fun _ => brT (by simp [within]; omega) (brT (by simp [within]; omega) ?_)) (fun hh => by exfalso; omega)
    rw [hw, Nat.mul_one]
    refine brNE (fun h2 => ?_) (fun h2 => ?_)
    · rw [if_pos h2] at h
      exact on_ _ r (AtsEq.refl _) hμ ((br_t (g := 0) (pdec_yes hq)).trans h) rfl (AtsEq.refl _)
    · rw [if_neg (fun hh => hh h2)] at h
      exact on_ _ r (AtsEq.refl _) hμ ((br_t (g := 0) (pdec_yes hq)).trans h) rfl (AtsEq.refl _)
  · have e : (g x1.toNat 0 - x3).toNat = 0 := by omega
    rw [e, rlastG] at h
    have hr := val_ok h
    subst hr
    exact out_ (by simp) rfl (AtsEq.refl _)
end Go.Proofs.Ythgagehgiooklaa.G
end

/-
  What functions of the seat compute, printed by a program from the explorer.
-/
section
namespace Go.Proofs.Ythgagehgiooklaa.G
open Go Go.AM Go.Proofs
theorem f_rfence_11 : LoopF Try.prog 4 (loopAt Try.f40 11) (loopFn 4 lsh_rfence_11 xs_rfence_11 OL_rfence_11) :=
  loop_sat (sy := y_rfence_11) (fuel := 100) (Lp := noLoops) o_RS2 mixed (loopsOK_at (noLoops_ok _) 11) rfl eB_rfence_11 rd_rfence_11
noncomputable def Lp_rfence_11 : Loops := Loops.set noLoops 11 (loopFn 4 lsh_rfence_11 xs_rfence_11 OL_rfence_11)
theorem lk_rfence_11 : LoopsFn Try.prog 4 Lp_rfence_11 Try.f40 := loopsFn_set (noLoops_ok _) (by kernel_rfl) f_rfence_11

/-! ### the loop at 7 of rfence -/

noncomputable def lsh_rfence_7 : FSh := ⟨[.v false [.p 0 0], .v false [.k (.n .i64)], .any, .any, .any, .any, .v false [.k (.n .i64)], .any, .any, .any, .any, .any, .any, .any, .any, .any, .any, .any, .any, .any, .any, .any, .any, .any, .any, .any, .any, .any, .any, .any, .any, .any, .any, .any, .any, .any, .any, .any, .any, .any, .any, .any, .any, .any, .any, .any, .any, .any, .any, .any, .any, .any, .any, .any, .any, .any, .any, .any, .any, .any, .any, .any], [.cells [.sw 1 8, .sw 2 1, .k .b, .k (.n .i64), .k (.n .i64)], .rows [.n .u64, .n .u64, .n .u64, .n .u64, .n .u64, .n .u64, .n .u64, .n .u64] true, .nrows [.n .i64] 0 [.n .i64, .n .u64, .b, .b, .b, .b, .b, .b, .b, .b] 4 false true, .no, .no]⟩
noncomputable def xsh_rfence_7_0 : FSh := ⟨[.any, .any, .any, .any, .any, .any, .any, .any, .any, .any, .any, .any, .any, .any, .any, .any, .any, .any, .any, .any, .any, .any, .any, .any, .any, .any, .any, .any, .any, .any, .any, .any, .any, .any, .any, .any, .any, .any, .any, .any, .any, .any, .any, .any, .any, .any, .any, .any, .any, .any, .any, .any, .any, .any, .any, .any, .any, .any, .any, .any, .any, .any], [.cells [.sw 1 8, .sw 2 1, .k .b, .k (.n .i64), .k (.n .i64)], .rows [.n .u64, .n .u64, .n .u64, .n .u64, .n .u64, .n .u64, .n .u64, .n .u64] true, .nrows [.n .i64] 0 [.n .i64, .n .u64, .b, .b, .b, .b, .b, .b, .b, .b] 4 false true, .no, .no]⟩
noncomputable def xs_rfence_7 : Exs := fun e => match e with
  | .normal => some lsh_rfence_7
  | .exit n => (match Nat.beq n 0 with | true => some xsh_rfence_7_0 | false => none)
  | .ret => none
noncomputable def rfence_7_c17 (x0 : Int) (x1 : Int) (g6 : Nat → Nat → Int) (h6 : Nat → Nat → Int) : Bool := Decidable.decide (Go.Proofs.Ythgagehgiooklaa.G.rlastG (h6 (Int.toNat x1)) (Int.toNat x0) (0 : Nat) (Int.toNat (g6 (Int.toNat x1) (0 : Nat) - (0 : Int))) (0 : Int) > (0 : Int))
noncomputable def B_rfence_7 (x0 : Int) (x1 : Int) (x2 : Bool) (x3 : Int) (x4 : Int) (n5 : Nat) (g5 : Nat → Nat → Int) (n6 : Nat) (g6 : Nat → Nat → Int) (h6 : Nat → Nat → Int) : Tr (Ex × List At) :=
 .br 26 (Decidable.decide (x1 < (↑n5 : Int)))
 (.br 0 (Go.Proofs.Ythgagehgiooklaa.G.pdec (Go.Proofs.Ythgagehgiooklaa.G.rpI x0 x1 (0 : Int) n6 g6))
 (.br 57 ((rfence_7_c17 x0 x1 g6 h6))
 (.br 0 (Go.Proofs.Ythgagehgiooklaa.G.pdec (Go.Proofs.Ythgagehgiooklaa.G.RMem.hasOk { n := n5, S := g5, k := n6, G := g6, L := h6, off := x2, left := x3, count := x4 } x1 (Go.Proofs.Ythgagehgiooklaa.G.rlastG (h6 (Int.toNat x1)) (Int.toNat x0) (0 : Nat) (Int.toNat (g6 (Int.toNat x1) (0 : Nat) - (0 : Int))) (0 : Int))))
 (.ok (.normal, [(.i (x0)), (.i (Go.IntKind.wrap Go.IntKind.i64 (x1 + (1 : Int)))), (.b ((Go.Proofs.Ythgagehgiooklaa.G.RMem.suM { n := n5, S := g5, k := n6, G := g6, L := h6, off := x2, left := x3, count := x4 } x1 (Go.Proofs.Ythgagehgiooklaa.G.rlastG (h6 (Int.toNat x1)) (Int.toNat x0) (0 : Nat) (Int.toNat (g6 (Int.toNat x1) (0 : Nat) - (0 : Int))) (0 : Int))).off)), (.i ((Go.Proofs.Ythgagehgiooklaa.G.RMem.suM { n := n5, S := g5, k := n6, G := g6, L := h6, off := x2, left := x3, count := x4 } x1 (Go.Proofs.Ythgagehgiooklaa.G.rlastG (h6 (Int.toNat x1)) (Int.toNat x0) (0 : Nat) (Int.toNat (g6 (Int.toNat x1) (0 : Nat) - (0 : Int))) (0 : Int))).left)), (.i ((Go.Proofs.Ythgagehgiooklaa.G.RMem.suM { n := n5, S := g5, k := n6, G := g6, L := h6, off := x2, left := x3, count := x4 } x1 (Go.Proofs.Ythgagehgiooklaa.G.rlastG (h6 (Int.toNat x1)) (Int.toNat x0) (0 : Nat) (Int.toNat (g6 (Int.toNat x1) (0 : Nat) - (0 : Int))) (0 : Int))).count)), (.r ((Go.Proofs.Ythgagehgiooklaa.G.RMem.suM { n := n5, S := g5, k := n6, G := g6, L := h6, off := x2, left := x3, count := x4 } x1 (Go.Proofs.Ythgagehgiooklaa.G.rlastG (h6 (Int.toNat x1)) (Int.toNat x0) (0 : Nat) (Int.toNat (g6 (Int.toNat x1) (0 : Nat) - (0 : Int))) (0 : Int))).n) ((Go.Proofs.Ythgagehgiooklaa.G.RMem.suM { n := n5, S := g5, k := n6, G := g6, L := h6, off := x2, left := x3, count := x4 } x1 (Go.Proofs.Ythgagehgiooklaa.G.rlastG (h6 (Int.toNat x1)) (Int.toNat x0) (0 : Nat) (Int.toNat (g6 (Int.toNat x1) (0 : Nat) - (0 : Int))) (0 : Int))).S)), (.q ((Go.Proofs.Ythgagehgiooklaa.G.RMem.suM { n := n5, S := g5, k := n6, G := g6, L := h6, off := x2, left := x3, count := x4 } x1 (Go.Proofs.Ythgagehgiooklaa.G.rlastG (h6 (Int.toNat x1)) (Int.toNat x0) (0 : Nat) (Int.toNat (g6 (Int.toNat x1) (0 : Nat) - (0 : Int))) (0 : Int))).k) ((Go.Proofs.Ythgagehgiooklaa.G.RMem.suM { n := n5, S := g5, k := n6, G := g6, L := h6, off := x2, left := x3, count := x4 } x1 (Go.Proofs.Ythgagehgiooklaa.G.rlastG (h6 (Int.toNat x1)) (Int.toNat x0) (0 : Nat) (Int.toNat (g6 (Int.toNat x1) (0 : Nat) - (0 : Int))) (0 : Int))).G) ((0 : Nat)) ((10 : Nat)) ((Go.Proofs.Ythgagehgiooklaa.G.RMem.suM { n := n5, S := g5, k := n6, G := g6, L := h6, off := x2, left := x3, count := x4 } x1 (Go.Proofs.Ythgagehgiooklaa.G.rlastG (h6 (Int.toNat x1)) (Int.toNat x0) (0 : Nat) (Int.toNat (g6 (Int.toNat x1) (0 : Nat) - (0 : Int))) (0 : Int))).L))]))
 (.no))
 (.ok (.normal, [(.i (x0)), (.i (Go.IntKind.wrap Go.IntKind.i64 (x1 + (1 : Int)))), (.b (x2)), (.i (x3)), (.i (x4)), (.r (n5) (g5)), (.q (n6) (g6) ((0 : Nat)) ((10 : Nat)) (h6))])))
 (.no))
 (.ok (.exit 0, [(.b (x2)), (.i (x3)), (.i (x4)), (.r (n5) (g5)), (.q (n6) (g6) ((0 : Nat)) ((10 : Nat)) (h6))]))
noncomputable def y_rfence_7 : Nat → Option Nat := (syOf3 [26, 57] [] [])
noncomputable def BL_rfence_7 (l : List At) : Tr (Ex × List At) := B_rfence_7 (aI l 0) (aI l 1) (aB l 2) (aI l 3) (aI l 4) (aRn l 5) (aRg l 5) (aRn l 6) (aRg l 6) (aMh l 6 0 10)
theorem eB_rfence_7 (l : List At) : (exec Try.prog Γ_RS2 y_rfence_7 Lp_rfence_11 100 (loopAt Try.f40 7) ⟨mkV lsh_rfence_7 l, mkH lsh_rfence_7 l⟩).bind (leafL 4 xs_rfence_7) = BL_rfence_7 l := by kernel_rfl
/- by hand: O_rfence_7 (x0 : Int) (x1 : Int) (x2 : Bool) (x3 : Int) (x4 : Int) (n5 : Nat) (g5 : Nat → Nat → Int) (n6 : Nat) (g6 : Nat → Nat → Int) (h6 : Nat → Nat → Int) : Tr (Ex × List At); OL_rfence_7 (l) := O_rfence_7 (aI l 0) (aI l 1) (aB l 2) (aI l 3) (aI l 4) (aRn l 5) (aRg l 5) (aRn l 6) (aRg l 6) (aMh l 6 0 10); μ_rfence_7 : List At → Nat; rd_rfence_7 : ∀ l r, (OL_rfence_7 l).val = some r → RoundA BL_rfence_7 OL_rfence_7 μ_rfence_7 l r -/

end Go.Proofs.Ythgagehgiooklaa.G
end

/-
  The loop of the reference's Fence, over all lines.
-/
section
namespace Go.Proofs.Ythgagehgiooklaa.G
open Go Go.AM Go.Proofs

theorem lastF_le (hr : Nat → Int) (core : Nat) : ∀ m, lastF hr core m ≤ m
  | 0 => Nat.le_refl _
  | m + 1 => by
    have := lastF_le hr core m
    rw [lastF]
    split <;> omega
theorem rsS_zero (s hr : Nat → Int) : rsS s hr 0 = s := by funext c; unfold rsS; split <;> rfl
theorem rsL_zero (hr : Nat → Int) : rsL hr 0 = hr := rfl

/-- All lines from the 'a'-th on, as far as the core has flushed. -/
def RMem.fk (y : RMem) (core i : Nat) : Nat := lastF (y.L i) core (y.G i 0).toNat
def RMem.feF (y : RMem) (core a : Nat) : RMem := y.wit (fun i => if a ≤ i ∧ i < y.n then rsS (y.S i) (y.L i) (y.fk core i) else y.S i)
  (fun i c => if c = 0 ∧ a ≤ i ∧ i < y.n then y.G i 0 - y.fk core i else y.G i c) (fun i => if a ≤ i ∧ i < y.n then rsL (y.L i) (y.fk core i) else y.L i)

theorem RMem.wit_eq {y y' : RMem} {S G L S' G' L' : Nat → Nat → Int} (hn : y.n = y'.n) (hk : y.k = y'.k) (h1 : y.off = y'.off) (h2 : y.left = y'.left) (h3 : y.count = y'.count) (hS : S = S') (hG : G = G') (hL : L = L') : y.wit S G L = y'.wit S' G' L' := by
  unfold RMem.wit
  rw [hn, hk, h1, h2, h3, hS, hG, hL]

theorem feF_step (y : RMem) (core a : Nat) (ha : a < y.n) (m : Int) (hm : m = (y.fk core a : Int)) : (y.suM (a : Int) m).feF core (a + 1) = y.feF core a := by
  subst hm
  refine RMem.wit_eq rfl rfl rfl rfl rfl (funext fun i => ?_) (funext fun i => funext fun c => ?_) (funext fun i => ?_)
  · show (if a + 1 ≤ i ∧ i < y.n then rsS (updR y.S a (rsS (y.S a) (y.L a) (y.fk core a)) i) (updR y.L a (rsL (y.L a) (y.fk core a)) i) (lastF (updR y.L a (rsL (y.L a) (y.fk core a)) i) core (updG y.G a 0 (y.G a 0 - (y.fk core a : Int)) i 0).toNat) else updR y.S a (rsS (y.S a) (y.L a) (y.fk core a)) i) = if a ≤ i ∧ i < y.n then rsS (y.S i) (y.L i) (y.fk core i) else y.S i
    by_cases hi : i = a
    · subst hi
      rw [if_neg (by omega), updR_self, if_pos ⟨Nat.le_refl _, ha⟩]
    · rw [updR_ne hi, updR_ne hi, updG_row, updR_ne hi]
      by_cases hc : a ≤ i ∧ i < y.n
      · rw [if_pos (by omega), if_pos hc]; rfl
      · rw [if_neg (by omega), if_neg hc]
  · show (if c = 0 ∧ a + 1 ≤ i ∧ i < y.n then updG y.G a 0 (y.G a 0 - (y.fk core a : Int)) i 0 - (lastF (updR y.L a (rsL (y.L a) (y.fk core a)) i) core (updG y.G a 0 (y.G a 0 - (y.fk core a : Int)) i 0).toNat : Int) else updG y.G a 0 (y.G a 0 - (y.fk core a : Int)) i c) = if c = 0 ∧ a ≤ i ∧ i < y.n then y.G i 0 - (y.fk core i : Int) else y.G i c
    rw [updG_row]
    by_cases hi : i = a
    · subst hi
      rw [if_neg (by omega), updR_self]
      by_cases hc : c = 0
      · rw [if_pos hc, if_pos ⟨hc, Nat.le_refl _, ha⟩]
      · rw [if_neg hc, if_neg (fun hh => hc hh.1)]
    · rw [updR_ne hi, updR_ne hi]
      by_cases hc : c = 0 ∧ a ≤ i ∧ i < y.n
      · rw [if_pos (by omega), if_pos hc]; rfl
      · rw [if_neg (by omega), if_neg hc]
  · show (if a + 1 ≤ i ∧ i < y.n then rsL (updR y.L a (rsL (y.L a) (y.fk core a)) i) (lastF (updR y.L a (rsL (y.L a) (y.fk core a)) i) core (updG y.G a 0 (y.G a 0 - (y.fk core a : Int)) i 0).toNat) else updR y.L a (rsL (y.L a) (y.fk core a)) i) = if a ≤ i ∧ i < y.n then rsL (y.L i) (y.fk core i) else y.L i
    by_cases hi : i = a
    · subst hi
      rw [if_neg (by omega), updR_self, if_pos ⟨Nat.le_refl _, ha⟩]
    · rw [updR_ne hi, updG_row, updR_ne hi]
      by_cases hc : a ≤ i ∧ i < y.n
      · rw [if_pos (by omega), if_pos hc]; rfl
      · rw [if_neg (by omega), if_neg hc]

theorem feF_skip (y : RMem) (core a : Nat) (hk : y.fk core a = 0) : y.feF core (a + 1) = y.feF core a := by
  refine RMem.wit_eq rfl rfl rfl rfl rfl (funext fun i => ?_) (funext fun i => funext fun c => ?_) (funext fun i => ?_)
  · by_cases hi : i = a
    · subst hi
      rw [if_neg (by omega)]
      split
      · rw [hk, rsS_zero]
      · rfl
    · by_cases hc : a ≤ i ∧ i < y.n
      · rw [if_pos (by omega), if_pos hc]
      · rw [if_neg (by omega), if_neg hc]
  · by_cases hi : i = a
    · subst hi
      rw [if_neg (by omega)]
      split
      · rename_i h
        rw [hk, h.1]; simp
      · rfl
    · by_cases hc : c = 0 ∧ a ≤ i ∧ i < y.n
      · rw [if_pos (by omega), if_pos hc]
      · rw [if_neg (by omega), if_neg hc]
  · by_cases hi : i = a
    · subst hi
      rw [if_neg (by omega)]
      split
      · rw [hk, rsL_zero]
      · rfl
    · by_cases hc : a ≤ i ∧ i < y.n
      · rw [if_pos (by omega), if_pos hc]
      · rw [if_neg (by omega), if_neg hc]

theorem feF_end (y : RMem) (core a : Nat) (ha : y.n ≤ a) : y.feF core a = y := by
  unfold RMem.feF RMem.wit
  have e1 : (fun i => if a ≤ i ∧ i < y.n then rsS (y.S i) (y.L i) (y.fk core i) else y.S i) = y.S := funext fun i => if_neg (by omega)
  have e2 : (fun i c => if c = 0 ∧ a ≤ i ∧ i < y.n then y.G i 0 - (y.fk core i : Int) else y.G i c) = y.G := funext fun i => funext fun c => if_neg (by omega)
  have e3 : (fun i => if a ≤ i ∧ i < y.n then rsL (y.L i) (y.fk core i) else y.L i) = y.L := funext fun i => if_neg (by omega)
  rw [e1, e2, e3]

def rpO (x0 x1 : Int) (y : RMem) : Prop := (0 ≤ x0 ∧ x0 < 8) ∧ (0 ≤ x1 ∧ x1 ≤ y.n) ∧ (y.k = y.n ∧ y.n ≤ 1073741824) ∧ ∀ i, x1.toNat ≤ i → i < y.n → RRowOk (y.G i 0) (y.L i)

noncomputable def O_rfence_7 (x0 x1 : Int) (y : RMem) : Tr (Ex × List At) := .br 0 (pdec (rpO x0 x1 y)) (.ok (.exit 0, (y.feF x0.toNat x1.toNat).ats)) .no
noncomputable def OL_rfence_7 (l : List At) : Tr (Ex × List At) := O_rfence_7 (aI l 0) (aI l 1) (mmr l 2)
def μ_rfence_7 (l : List At) : Nat := ((aRn l 5 : Int) - aI l 1).toNat

theorem rd_rfence_7 : ∀ l r, (OL_rfence_7 l).val = some r → RoundS BL_rfence_7 OL_rfence_7 μ_rfence_7 l r := by
  intro l r h
  obtain ⟨hc, h⟩ := guard_val h
  obtain ⟨⟨c0, c1⟩, ⟨c2, c3⟩, ⟨c4, c5⟩, c6⟩ := of_pdec hc
  unfold RoundS BL_rfence_7 B_rfence_7 rfence_7_c17
  simp only [mmr] at c3 c4 c5 c6 h
  generalize hx0 : aI l 0 = x0 at *
  generalize hx1 : aI l 1 = x1 at *
  generalize hn : aRn l 5 = n at *
  generalize hS : aRg l 5 = S at *
  generalize hk : aRn l 6 = k at *
  generalize hg : aRg l 6 = g at *
  generalize hh : aMh l 6 0 10 = hm at *
  generalize hb : aB l 2 = x2 at *
  generalize hb3 : aI l 3 = x3 at *
  generalize hb4 : aI l 4 = x4 at *
  refine brD (fun h1 => ?_) (fun h1 => ?_)
  · have hw : IntKind.i64.wrap (x1 + 1) = x1 + 1 := wrap_i64 (by omega) (by omega)
    have e2 : (x1 + 1).toNat = x1.toNat + 1 := by omega
    have hμ : ((n : Int) - (x1 + 1)).toNat < μ_rfence_7 l := by unfold μ_rfence_7; rw [hn, hx1]; omega
    have ho := c6 x1.toNat (Nat.le_refl _) (by omega)
    obtain ⟨o1, o2, o3⟩ := ho
    refine brT (pdec_yes ⟨⟨c0, c1⟩, ⟨c2, by omega⟩, Int.le_refl _, o1, o2⟩) ?_
    rw [Int.sub_zero, rlastG_all, hw]
    have hle := lastF_le (hm x1.toNat) x0.toNat (g x1.toNat 0).toNat
    have hfk : RMem.fk ⟨n, S, k, g, hm, x2, x3, x4⟩ x0.toNat x1.toNat = lastF (hm x1.toNat) x0.toNat (g x1.toNat 0).toNat := rfl
    rw [← hfk] at hle ⊢
    refine brD (fun h2 => brT (pdec_yes ⟨by omega, ⟨c2, by show x1 < (n : Int); omega⟩, c4, by show _ ≤ g x1.toNat 0; omega, o1, o2, o3⟩) ?_) (fun h2 => ?_)
    · have key := feF_step ⟨n, S, k, g, hm, x2, x3, x4⟩ x0.toNat x1.toNat (by show x1.toNat < n; omega) _ rfl
      rw [Int.toNat_of_nonneg c2, ← e2] at key
      rw [← key] at h
      have hq : rpO x0 (x1 + 1) (RMem.suM ⟨n, S, k, g, hm, x2, x3, x4⟩ x1 (RMem.fk ⟨n, S, k, g, hm, x2, x3, x4⟩ x0.toNat x1.toNat)) := ⟨⟨c0, c1⟩, ⟨by omega, by show x1 + 1 ≤ (n : Int); omega⟩, ⟨c4, c5⟩, fun i h5 h6 => by
        show RRowOk (updG g x1.toNat 0 _ i 0) (updR hm x1.toNat _ i)
        rw [updG_row, updR_ne (by omega), updR_ne (by omega)]
        exact c6 i (by omega) h6⟩
      exact on_ _ r (AtsEq.refl _) hμ ((br_t (g := 0) (pdec_yes hq)).trans h) rfl (AtsEq.refl _)
    · have key := feF_skip ⟨n, S, k, g, hm, x2, x3, x4⟩ x0.toNat x1.toNat (by omega)
      rw [← e2] at key
      rw [← key] at h
      have hq : rpO x0 (x1 + 1) ⟨n, S, k, g, hm, x2, x3, x4⟩ := ⟨⟨c0, c1⟩, ⟨by omega, by show x1 + 1 ≤ (n : Int); omega⟩, ⟨c4, c5⟩, fun i h5 h6 => c6 i (by omega) h6⟩
      exact on_ _ r (AtsEq.refl _) hμ ((br_t (g := 0) (pdec_yes hq)).trans h) rfl (AtsEq.refl _)
  · rw [feF_end _ _ _ (by show n ≤ x1.toNat; omega)] at h
    have hr := val_ok h
    subst hr
    exact out_ (by simp) rfl (AtsEq.refl _)
end Go.Proofs.Ythgagehgiooklaa.G
end

/-
  What functions of the seat compute, printed by a program from the explorer.
-/
section
namespace Go.Proofs.Ythgagehgiooklaa.G
open Go Go.AM Go.Proofs
theorem f_rfence_7 : LoopF Try.prog 4 (loopAt Try.f40 7) (loopFn 4 lsh_rfence_7 xs_rfence_7 OL_rfence_7) :=
  loop_sat (sy := y_rfence_7) (fuel := 100) (Lp := Lp_rfence_11) o_RS2 mixed (loopsOK_at lk_rfence_11 7) rfl eB_rfence_7 rd_rfence_7
noncomputable def Lp_rfence_7 : Loops := Loops.set Lp_rfence_11 7 (loopFn 4 lsh_rfence_7 xs_rfence_7 OL_rfence_7)
theorem lk_rfence_7 : LoopsFn Try.prog 4 Lp_rfence_7 Try.f40 := loopsFn_set lk_rfence_11 (by kernel_rfl) f_rfence_7

/-! ### rfence -/

noncomputable def ish_rfence : FSh := ⟨[.v false [.p 0 0], .v false [.k (.n .i64)]], [.cells [.sw 1 8, .sw 2 1, .k .b, .k (.n .i64), .k (.n .i64)], .rows [.n .u64, .n .u64, .n .u64, .n .u64, .n .u64, .n .u64, .n .u64, .n .u64] true, .nrows [.n .i64] 0 [.n .i64, .n .u64, .b, .b, .b, .b, .b, .b, .b, .b] 3 false true, .no]⟩
noncomputable def osh_rfence : FSh := ⟨[.v false [.k (.n .i64)]], [.cells [.sw 1 8, .sw 2 1, .k .b, .k (.n .i64), .k (.n .i64)], .rows [.n .u64, .n .u64, .n .u64, .n .u64, .n .u64, .n .u64, .n .u64, .n .u64] true, .nrows [.n .i64] 0 [.n .i64, .n .u64, .b, .b, .b, .b, .b, .b, .b, .b] 4 false true, .no, .no]⟩
noncomputable def T_rfence (x0 : Int) (x1 : Bool) (x2 : Int) (x3 : Int) (n4 : Nat) (g4 : Nat → Nat → Int) (n5 : Nat) (g5 : Nat → Nat → Int) (h5 : Nat → Nat → Int) : Tr (List At) :=
 .br 11 (Decidable.decide (x0 < (0 : Int)))
 (.ok [(.i ((1 : Int))), (.b (x1)), (.i (x2)), (.i (x3)), (.r (n4) (g4)), (.q (n5) (g5) ((0 : Nat)) ((10 : Nat)) (h5))])
 (.br 14 (Decidable.decide (x0 > (7 : Int)))
 (.ok [(.i ((1 : Int))), (.b (x1)), (.i (x2)), (.i (x3)), (.r (n4) (g4)), (.q (n5) (g5) ((0 : Nat)) ((10 : Nat)) (h5))])
 (.br 0 (Go.Proofs.Ythgagehgiooklaa.G.pdec (Go.Proofs.Ythgagehgiooklaa.G.stepOk x2 x3))
 (.br 18 (Go.Proofs.Ythgagehgiooklaa.G.rcodI x1 x2 != (0 : Int))
 (.ok [(.i (Go.Proofs.Ythgagehgiooklaa.G.rcodI x1 x2)), (.b (Go.Proofs.Ythgagehgiooklaa.G.rpoB x1 x2)), (.i (Go.Proofs.Ythgagehgiooklaa.G.rleftI x1 x2)), (.i (Go.Proofs.Ythgagehgiooklaa.G.rcntI x1 x2 x3)), (.r (n4) (g4)), (.q (n5) (g5) ((0 : Nat)) ((10 : Nat)) (h5))])
 (.br 0 (Go.Proofs.Ythgagehgiooklaa.G.pdec (Go.Proofs.Ythgagehgiooklaa.G.rpO x0 (0 : Int) { n := n4, S := g4, k := n5, G := g5, L := h5, off := Go.Proofs.Ythgagehgiooklaa.G.rpoB x1 x2, left := Go.Proofs.Ythgagehgiooklaa.G.rleftI x1 x2, count := Go.Proofs.Ythgagehgiooklaa.G.rcntI x1 x2 x3 }))
 (.ok [(.i ((0 : Int))), (.b ((Go.Proofs.Ythgagehgiooklaa.G.RMem.feF { n := n4, S := g4, k := n5, G := g5, L := h5, off := Go.Proofs.Ythgagehgiooklaa.G.rpoB x1 x2, left := Go.Proofs.Ythgagehgiooklaa.G.rleftI x1 x2, count := Go.Proofs.Ythgagehgiooklaa.G.rcntI x1 x2 x3 } (Int.toNat x0) (0 : Nat)).off)), (.i ((Go.Proofs.Ythgagehgiooklaa.G.RMem.feF { n := n4, S := g4, k := n5, G := g5, L := h5, off := Go.Proofs.Ythgagehgiooklaa.G.rpoB x1 x2, left := Go.Proofs.Ythgagehgiooklaa.G.rleftI x1 x2, count := Go.Proofs.Ythgagehgiooklaa.G.rcntI x1 x2 x3 } (Int.toNat x0) (0 : Nat)).left)), (.i ((Go.Proofs.Ythgagehgiooklaa.G.RMem.feF { n := n4, S := g4, k := n5, G := g5, L := h5, off := Go.Proofs.Ythgagehgiooklaa.G.rpoB x1 x2, left := Go.Proofs.Ythgagehgiooklaa.G.rleftI x1 x2, count := Go.Proofs.Ythgagehgiooklaa.G.rcntI x1 x2 x3 } (Int.toNat x0) (0 : Nat)).count)), (.r ((Go.Proofs.Ythgagehgiooklaa.G.RMem.feF { n := n4, S := g4, k := n5, G := g5, L := h5, off := Go.Proofs.Ythgagehgiooklaa.G.rpoB x1 x2, left := Go.Proofs.Ythgagehgiooklaa.G.rleftI x1 x2, count := Go.Proofs.Ythgagehgiooklaa.G.rcntI x1 x2 x3 } (Int.toNat x0) (0 : Nat)).n) ((Go.Proofs.Ythgagehgiooklaa.G.RMem.feF { n := n4, S := g4, k := n5, G := g5, L := h5, off := Go.Proofs.Ythgagehgiooklaa.G.rpoB x1 x2, left := Go.Proofs.Ythgagehgiooklaa.G.rleftI x1 x2, count := Go.Proofs.Ythgagehgiooklaa.G.rcntI x1 x2 x3 } (Int.toNat x0) (0 : Nat)).S)), (.q ((Go.Proofs.Ythgagehgiooklaa.G.RMem.feF { n := n4, S := g4, k := n5, G := g5, L := h5, off := Go.Proofs.Ythgagehgiooklaa.G.rpoB x1 x2, left := Go.Proofs.Ythgagehgiooklaa.G.rleftI x1 x2, count := Go.Proofs.Ythgagehgiooklaa.G.rcntI x1 x2 x3 } (Int.toNat x0) (0 : Nat)).k) ((Go.Proofs.Ythgagehgiooklaa.G.RMem.feF { n := n4, S := g4, k := n5, G := g5, L := h5, off := Go.Proofs.Ythgagehgiooklaa.G.rpoB x1 x2, left := Go.Proofs.Ythgagehgiooklaa.G.rleftI x1 x2, count := Go.Proofs.Ythgagehgiooklaa.G.rcntI x1 x2 x3 } (Int.toNat x0) (0 : Nat)).G) ((0 : Nat)) ((10 : Nat)) ((Go.Proofs.Ythgagehgiooklaa.G.RMem.feF { n := n4, S := g4, k := n5, G := g5, L := h5, off := Go.Proofs.Ythgagehgiooklaa.G.rpoB x1 x2, left := Go.Proofs.Ythgagehgiooklaa.G.rleftI x1 x2, count := Go.Proofs.Ythgagehgiooklaa.G.rcntI x1 x2 x3 } (Int.toNat x0) (0 : Nat)).L))])
 (.no)))
 (.no)))
noncomputable def y_rfence : Nat → Option Nat := (syOf3 [11, 14, 18] [] [])
noncomputable def TL_rfence (l : List At) : Tr (List At) := T_rfence (aI l 0) (aB l 1) (aI l 2) (aI l 3) (aRn l 4) (aRg l 4) (aRn l 5) (aRg l 5) (aMh l 5 0 10)
theorem e_rfence (l : List At) : (call Try.prog Γ_RS2 y_rfence Lp_rfence_7 100 Try.f40 (mkV ish_rfence l) (mkH ish_rfence l)).bind (leafO 4 osh_rfence) = TL_rfence l := by kernel_rfl
noncomputable def F_rfence : List At → Tr (List At) := TL_rfence
theorem s_rfence : SpecF Try.prog 40 (.eff (locF ish_rfence osh_rfence F_rfence)) :=
  spec_loc (sy := y_rfence) (fuel := 100) (Lp := Lp_rfence_7) o_RS2 mixed ⟨Try.func40, by kernel_rfl, by kernel_rfl⟩ ish_rfence osh_rfence lk_rfence_7 (hT_ways e_rfence)
noncomputable def Γ_rfence : Specs := upd Γ_RS2 40 (.eff (locF ish_rfence osh_rfence F_rfence))
theorem o_rfence : SpecOK Try.prog Γ_rfence := SpecOK.upd o_RS2 s_rfence

end Go.Proofs.Ythgagehgiooklaa.G
end

/-
  What functions of the seat compute, printed by a program from the explorer.
-/
section
namespace Go.Proofs.Ythgagehgiooklaa.G
open Go Go.AM Go.Proofs
/-! ### the loop at 2 of rcrash -/

noncomputable def lsh_rcrash_2 : FSh := ⟨[.v false [.p 0 0], .v false [.sq 1 1], .any, .any, .v false [.k (.n .i64)], .v false [.k (.n .i64)], .any, .any, .any, .any, .any, .any, .any, .any, .any, .any, .any, .any, .any, .any, .any, .any, .any, .any, .any, .any, .any, .any, .any, .any, .any, .any, .any, .any, .any, .any, .any, .any, .any, .any, .any, .any, .any, .any, .any, .any, .any, .any, .any, .any, .any, .any, .any, .any, .any, .any, .any, .any, .any, .any, .any, .any, .any, .any, .any, .any], [.cells [.sw 2 8, .sw 3 1, .k .b, .k (.n .i64), .k (.n .i64)], .rows [.n .i64] false, .rows [.n .u64, .n .u64, .n .u64, .n .u64, .n .u64, .n .u64, .n .u64, .n .u64] true, .nrows [.n .i64] 0 [.n .i64, .n .u64, .b, .b, .b, .b, .b, .b, .b, .b] 5 false true, .no, .no]⟩
noncomputable def xsh_rcrash_2_0 : FSh := ⟨[.v false [.p 0 0], .any, .any, .any, .any, .any, .any, .any, .any, .any, .any, .any, .any, .any, .any, .any, .any, .any, .any, .any, .any, .any, .any, .any, .any, .any, .any, .any, .any, .any, .any, .any, .any, .any, .any, .any, .any, .any, .any, .any, .any, .any, .any, .any, .any, .any, .any, .any, .any, .any, .any, .any, .any, .any, .any, .any, .any, .any, .any, .any, .any, .any, .any, .any, .any, .any], [.cells [.sw 2 8, .sw 3 1, .k .b, .k (.n .i64), .k (.n .i64)], .no, .rows [.n .u64, .n .u64, .n .u64, .n .u64, .n .u64, .n .u64, .n .u64, .n .u64] true, .nrows [.n .i64] 0 [.n .i64, .n .u64, .b, .b, .b, .b, .b, .b, .b, .b] 5 false true, .no, .no]⟩
noncomputable def xs_rcrash_2 : Exs := fun e => match e with
  | .normal => some lsh_rcrash_2
  | .exit n => (match Nat.beq n 0 with | true => some xsh_rcrash_2_0 | false => none)
  | .ret => none
noncomputable def B_rcrash_2 (x0 : Nat) (x1 : Nat) (x2 : Int) (x3 : Int) (x4 : Bool) (x5 : Int) (x6 : Int) (n7 : Nat) (g7 : Nat → Nat → Int) (n8 : Nat) (g8 : Nat → Nat → Int) (n9 : Nat) (g9 : Nat → Nat → Int) (h9 : Nat → Nat → Int) : Tr (Ex × List At) :=
 .br 13 (Decidable.decide (x3 < (↑n8 : Int)))
 (.br 21 (Go.AM.within x3 n9)
 (.br 24 ((↑(Int.toNat (g9 (Int.toNat x3) (0 : Nat))) : Int) == (0 : Int))
 (.ok (.normal, [(.n (x0)), (.n (x1)), (.i (x2)), (.i (Go.IntKind.wrap Go.IntKind.i64 (x3 + (1 : Int)))), (.b (x4)), (.i (x5)), (.i (x6)), (.r (n7) (g7)), (.r (n8) (g8)), (.q (n9) (g9) ((0 : Nat)) ((10 : Nat)) (h9))]))
 (.br 28 (Decidable.decide (x2 < (↑x1 : Int)))
 (.br 31 (Go.AM.within x2 x1)
 (.br 34 (Decidable.decide (g7 (x0 + Int.toNat x2) (0 : Nat) < (0 : Int)))
 (.br 46 (Go.AM.within x3 n9)
 (.br 50 (Go.IntKind.wrap Go.IntKind.i64 ((↑(Int.toNat (g9 (Int.toNat x3) (0 : Nat))) : Int) + (1 : Int)) != (0 : Int))
 (.br 0 (Go.Proofs.Ythgagehgiooklaa.G.pdec (Go.Proofs.Ythgagehgiooklaa.G.RMem.hasOk { n := n8, S := g8, k := n9, G := g9, L := h9, off := x4, left := x5, count := x6 } x3 (Int.tmod (Go.IntKind.wrap Go.IntKind.i64 ((0 : Int) - Go.IntKind.wrap Go.IntKind.i64 (g7 (x0 + Int.toNat x2) (0 : Nat) + (1 : Int)))) (Go.IntKind.wrap Go.IntKind.i64 ((↑(Int.toNat (g9 (Int.toNat x3) (0 : Nat))) : Int) + (1 : Int))))))
 (.br 57 (Go.AM.within x3 (Go.Proofs.Ythgagehgiooklaa.G.RMem.suM { n := n8, S := g8, k := n9, G := g9, L := h9, off := x4, left := x5, count := x6 } x3 (Int.tmod (Go.IntKind.wrap Go.IntKind.i64 ((0 : Int) - Go.IntKind.wrap Go.IntKind.i64 (g7 (x0 + Int.toNat x2) (0 : Nat) + (1 : Int)))) (Go.IntKind.wrap Go.IntKind.i64 ((↑(Int.toNat (g9 (Int.toNat x3) (0 : Nat))) : Int) + (1 : Int))))).k)
 (.br 0 (Bool.true)
 (.ok (.normal, [(.n (x0)), (.n (x1)), (.i (Go.IntKind.wrap Go.IntKind.i64 (x2 + (1 : Int)))), (.i (Go.IntKind.wrap Go.IntKind.i64 (x3 + (1 : Int)))), (.b ((Go.Proofs.Ythgagehgiooklaa.G.RMem.suM { n := n8, S := g8, k := n9, G := g9, L := h9, off := x4, left := x5, count := x6 } x3 (Int.tmod (Go.IntKind.wrap Go.IntKind.i64 ((0 : Int) - Go.IntKind.wrap Go.IntKind.i64 (g7 (x0 + Int.toNat x2) (0 : Nat) + (1 : Int)))) (Go.IntKind.wrap Go.IntKind.i64 ((↑(Int.toNat (g9 (Int.toNat x3) (0 : Nat))) : Int) + (1 : Int))))).off)), (.i ((Go.Proofs.Ythgagehgiooklaa.G.RMem.suM { n := n8, S := g8, k := n9, G := g9, L := h9, off := x4, left := x5, count := x6 } x3 (Int.tmod (Go.IntKind.wrap Go.IntKind.i64 ((0 : Int) - Go.IntKind.wrap Go.IntKind.i64 (g7 (x0 + Int.toNat x2) (0 : Nat) + (1 : Int)))) (Go.IntKind.wrap Go.IntKind.i64 ((↑(Int.toNat (g9 (Int.toNat x3) (0 : Nat))) : Int) + (1 : Int))))).left)), (.i ((Go.Proofs.Ythgagehgiooklaa.G.RMem.suM { n := n8, S := g8, k := n9, G := g9, L := h9, off := x4, left := x5, count := x6 } x3 (Int.tmod (Go.IntKind.wrap Go.IntKind.i64 ((0 : Int) - Go.IntKind.wrap Go.IntKind.i64 (g7 (x0 + Int.toNat x2) (0 : Nat) + (1 : Int)))) (Go.IntKind.wrap Go.IntKind.i64 ((↑(Int.toNat (g9 (Int.toNat x3) (0 : Nat))) : Int) + (1 : Int))))).count)), (.r (n7) (g7)), (.r ((Go.Proofs.Ythgagehgiooklaa.G.RMem.suM { n := n8, S := g8, k := n9, G := g9, L := h9, off := x4, left := x5, count := x6 } x3 (Int.tmod (Go.IntKind.wrap Go.IntKind.i64 ((0 : Int) - Go.IntKind.wrap Go.IntKind.i64 (g7 (x0 + Int.toNat x2) (0 : Nat) + (1 : Int)))) (Go.IntKind.wrap Go.IntKind.i64 ((↑(Int.toNat (g9 (Int.toNat x3) (0 : Nat))) : Int) + (1 : Int))))).n) ((Go.Proofs.Ythgagehgiooklaa.G.RMem.suM { n := n8, S := g8, k := n9, G := g9, L := h9, off := x4, left := x5, count := x6 } x3 (Int.tmod (Go.IntKind.wrap Go.IntKind.i64 ((0 : Int) - Go.IntKind.wrap Go.IntKind.i64 (g7 (x0 + Int.toNat x2) (0 : Nat) + (1 : Int)))) (Go.IntKind.wrap Go.IntKind.i64 ((↑(Int.toNat (g9 (Int.toNat x3) (0 : Nat))) : Int) + (1 : Int))))).S)), (.q ((Go.Proofs.Ythgagehgiooklaa.G.RMem.suM { n := n8, S := g8, k := n9, G := g9, L := h9, off := x4, left := x5, count := x6 } x3 (Int.tmod (Go.IntKind.wrap Go.IntKind.i64 ((0 : Int) - Go.IntKind.wrap Go.IntKind.i64 (g7 (x0 + Int.toNat x2) (0 : Nat) + (1 : Int)))) (Go.IntKind.wrap Go.IntKind.i64 ((↑(Int.toNat (g9 (Int.toNat x3) (0 : Nat))) : Int) + (1 : Int))))).k) (Go.AM.updG (Go.Proofs.Ythgagehgiooklaa.G.RMem.suM { n := n8, S := g8, k := n9, G := g9, L := h9, off := x4, left := x5, count := x6 } x3 (Int.tmod (Go.IntKind.wrap Go.IntKind.i64 ((0 : Int) - Go.IntKind.wrap Go.IntKind.i64 (g7 (x0 + Int.toNat x2) (0 : Nat) + (1 : Int)))) (Go.IntKind.wrap Go.IntKind.i64 ((↑(Int.toNat (g9 (Int.toNat x3) (0 : Nat))) : Int) + (1 : Int))))).G (Int.toNat x3) (0 : Nat) (0 : Int)) ((0 : Nat)) ((10 : Nat)) ((Go.Proofs.Ythgagehgiooklaa.G.RMem.suM { n := n8, S := g8, k := n9, G := g9, L := h9, off := x4, left := x5, count := x6 } x3 (Int.tmod (Go.IntKind.wrap Go.IntKind.i64 ((0 : Int) - Go.IntKind.wrap Go.IntKind.i64 (g7 (x0 + Int.toNat x2) (0 : Nat) + (1 : Int)))) (Go.IntKind.wrap Go.IntKind.i64 ((↑(Int.toNat (g9 (Int.toNat x3) (0 : Nat))) : Int) + (1 : Int))))).L))]))
 (.no))
 (.no))
 (.no))
 (.no))
 (.no))
 (.br 46 (Go.AM.within x3 n9)
 (.br 50 (Go.IntKind.wrap Go.IntKind.i64 ((↑(Int.toNat (g9 (Int.toNat x3) (0 : Nat))) : Int) + (1 : Int)) != (0 : Int))
 (.br 0 (Go.Proofs.Ythgagehgiooklaa.G.pdec (Go.Proofs.Ythgagehgiooklaa.G.RMem.hasOk { n := n8, S := g8, k := n9, G := g9, L := h9, off := x4, left := x5, count := x6 } x3 (Int.tmod (g7 (x0 + Int.toNat x2) (0 : Nat)) (Go.IntKind.wrap Go.IntKind.i64 ((↑(Int.toNat (g9 (Int.toNat x3) (0 : Nat))) : Int) + (1 : Int))))))
 (.br 57 (Go.AM.within x3 (Go.Proofs.Ythgagehgiooklaa.G.RMem.suM { n := n8, S := g8, k := n9, G := g9, L := h9, off := x4, left := x5, count := x6 } x3 (Int.tmod (g7 (x0 + Int.toNat x2) (0 : Nat)) (Go.IntKind.wrap Go.IntKind.i64 ((↑(Int.toNat (g9 (Int.toNat x3) (0 : Nat))) : Int) + (1 : Int))))).k)
 (.br 0 (Bool.true)
 (.ok (.normal, [(.n (x0)), (.n (x1)), (.i (Go.IntKind.wrap Go.IntKind.i64 (x2 + (1 : Int)))), (.i (Go.IntKind.wrap Go.IntKind.i64 (x3 + (1 : Int)))), (.b ((Go.Proofs.Ythgagehgiooklaa.G.RMem.suM { n := n8, S := g8, k := n9, G := g9, L := h9, off := x4, left := x5, count := x6 } x3 (Int.tmod (g7 (x0 + Int.toNat x2) (0 : Nat)) (Go.IntKind.wrap Go.IntKind.i64 ((↑(Int.toNat (g9 (Int.toNat x3) (0 : Nat))) : Int) + (1 : Int))))).off)), (.i ((Go.Proofs.Ythgagehgiooklaa.G.RMem.suM { n := n8, S := g8, k := n9, G := g9, L := h9, off := x4, left := x5, count := x6 } x3 (Int.tmod (g7 (x0 + Int.toNat x2) (0 : Nat)) (Go.IntKind.wrap Go.IntKind.i64 ((↑(Int.toNat (g9 (Int.toNat x3) (0 : Nat))) : Int) + (1 : Int))))).left)), (.i ((Go.Proofs.Ythgagehgiooklaa.G.RMem.suM { n := n8, S := g8, k := n9, G := g9, L := h9, off := x4, left := x5, count := x6 } x3 (Int.tmod (g7 (x0 + Int.toNat x2) (0 : Nat)) (Go.IntKind.wrap Go.IntKind.i64 ((↑(Int.toNat (g9 (Int.toNat x3) (0 : Nat))) : Int) + (1 : Int))))).count)), (.r (n7) (g7)), (.r ((Go.Proofs.Ythgagehgiooklaa.G.RMem.suM { n := n8, S := g8, k := n9, G := g9, L := h9, off := x4, left := x5, count := x6 } x3 (Int.tmod (g7 (x0 + Int.toNat x2) (0 : Nat)) (Go.IntKind.wrap Go.IntKind.i64 ((↑(Int.toNat (g9 (Int.toNat x3) (0 : Nat))) : Int) + (1 : Int))))).n) ((Go.Proofs.Ythgagehgiooklaa.G.RMem.suM { n := n8, S := g8, k := n9, G := g9, L := h9, off := x4, left := x5, count := x6 } x3 (Int.tmod (g7 (x0 + Int.toNat x2) (0 : Nat)) (Go.IntKind.wrap Go.IntKind.i64 ((↑(Int.toNat (g9 (Int.toNat x3) (0 : Nat))) : Int) + (1 : Int))))).S)), (.q ((Go.Proofs.Ythgagehgiooklaa.G.RMem.suM { n := n8, S := g8, k := n9, G := g9, L := h9, off := x4, left := x5, count := x6 } x3 (Int.tmod (g7 (x0 + Int.toNat x2) (0 : Nat)) (Go.IntKind.wrap Go.IntKind.i64 ((↑(Int.toNat (g9 (Int.toNat x3) (0 : Nat))) : Int) + (1 : Int))))).k) (Go.AM.updG (Go.Proofs.Ythgagehgiooklaa.G.RMem.suM { n := n8, S := g8, k := n9, G := g9, L := h9, off := x4, left := x5, count := x6 } x3 (Int.tmod (g7 (x0 + Int.toNat x2) (0 : Nat)) (Go.IntKind.wrap Go.IntKind.i64 ((↑(Int.toNat (g9 (Int.toNat x3) (0 : Nat))) : Int) + (1 : Int))))).G (Int.toNat x3) (0 : Nat) (0 : Int)) ((0 : Nat)) ((10 : Nat)) ((Go.Proofs.Ythgagehgiooklaa.G.RMem.suM { n := n8, S := g8, k := n9, G := g9, L := h9, off := x4, left := x5, count := x6 } x3 (Int.tmod (g7 (x0 + Int.toNat x2) (0 : Nat)) (Go.IntKind.wrap Go.IntKind.i64 ((↑(Int.toNat (g9 (Int.toNat x3) (0 : Nat))) : Int) + (1 : Int))))).L))]))
 (.no))
 (.no))
 (.no))
 (.no))
 (.no)))
 (.no))
 (.br 34 (Bool.false)
 (.br 46 (Go.AM.within x3 n9)
 (.br 50 (Go.IntKind.wrap Go.IntKind.i64 ((↑(Int.toNat (g9 (Int.toNat x3) (0 : Nat))) : Int) + (1 : Int)) != (0 : Int))
 (.br 0 (Go.Proofs.Ythgagehgiooklaa.G.pdec (Go.Proofs.Ythgagehgiooklaa.G.RMem.hasOk { n := n8, S := g8, k := n9, G := g9, L := h9, off := x4, left := x5, count := x6 } x3 (Int.tmod (-1 : Int) (Go.IntKind.wrap Go.IntKind.i64 ((↑(Int.toNat (g9 (Int.toNat x3) (0 : Nat))) : Int) + (1 : Int))))))
 (.br 57 (Go.AM.within x3 (Go.Proofs.Ythgagehgiooklaa.G.RMem.suM { n := n8, S := g8, k := n9, G := g9, L := h9, off := x4, left := x5, count := x6 } x3 (Int.tmod (-1 : Int) (Go.IntKind.wrap Go.IntKind.i64 ((↑(Int.toNat (g9 (Int.toNat x3) (0 : Nat))) : Int) + (1 : Int))))).k)
 (.br 0 (Bool.true)
 (.ok (.normal, [(.n (x0)), (.n (x1)), (.i (Go.IntKind.wrap Go.IntKind.i64 (x2 + (1 : Int)))), (.i (Go.IntKind.wrap Go.IntKind.i64 (x3 + (1 : Int)))), (.b ((Go.Proofs.Ythgagehgiooklaa.G.RMem.suM { n := n8, S := g8, k := n9, G := g9, L := h9, off := x4, left := x5, count := x6 } x3 (Int.tmod (-1 : Int) (Go.IntKind.wrap Go.IntKind.i64 ((↑(Int.toNat (g9 (Int.toNat x3) (0 : Nat))) : Int) + (1 : Int))))).off)), (.i ((Go.Proofs.Ythgagehgiooklaa.G.RMem.suM { n := n8, S := g8, k := n9, G := g9, L := h9, off := x4, left := x5, count := x6 } x3 (Int.tmod (-1 : Int) (Go.IntKind.wrap Go.IntKind.i64 ((↑(Int.toNat (g9 (Int.toNat x3) (0 : Nat))) : Int) + (1 : Int))))).left)), (.i ((Go.Proofs.Ythgagehgiooklaa.G.RMem.suM { n := n8, S := g8, k := n9, G := g9, L := h9, off := x4, left := x5, count := x6 } x3 (Int.tmod (-1 : Int) (Go.IntKind.wrap Go.IntKind.i64 ((↑(Int.toNat (g9 (Int.toNat x3) (0 : Nat))) : Int) + (1 : Int))))).count)), (.r (n7) (g7)), (.r ((Go.Proofs.Ythgagehgiooklaa.G.RMem.suM { n := n8, S := g8, k := n9, G := g9, L := h9, off := x4, left := x5, count := x6 } x3 (Int.tmod (-1 : Int) (Go.IntKind.wrap Go.IntKind.i64 ((↑(Int.toNat (g9 (Int.toNat x3) (0 : Nat))) : Int) + (1 : Int))))).n) ((Go.Proofs.Ythgagehgiooklaa.G.RMem.suM { n := n8, S := g8, k := n9, G := g9, L := h9, off := x4, left := x5, count := x6 } x3 (Int.tmod (-1 : Int) (Go.IntKind.wrap Go.IntKind.i64 ((↑(Int.toNat (g9 (Int.toNat x3) (0 : Nat))) : Int) + (1 : Int))))).S)), (.q ((Go.Proofs.Ythgagehgiooklaa.G.RMem.suM { n := n8, S := g8, k := n9, G := g9, L := h9, off := x4, left := x5, count := x6 } x3 (Int.tmod (-1 : Int) (Go.IntKind.wrap Go.IntKind.i64 ((↑(Int.toNat (g9 (Int.toNat x3) (0 : Nat))) : Int) + (1 : Int))))).k) (Go.AM.updG (Go.Proofs.Ythgagehgiooklaa.G.RMem.suM { n := n8, S := g8, k := n9, G := g9, L := h9, off := x4, left := x5, count := x6 } x3 (Int.tmod (-1 : Int) (Go.IntKind.wrap Go.IntKind.i64 ((↑(Int.toNat (g9 (Int.toNat x3) (0 : Nat))) : Int) + (1 : Int))))).G (Int.toNat x3) (0 : Nat) (0 : Int)) ((0 : Nat)) ((10 : Nat)) ((Go.Proofs.Ythgagehgiooklaa.G.RMem.suM { n := n8, S := g8, k := n9, G := g9, L := h9, off := x4, left := x5, count := x6 } x3 (Int.tmod (-1 : Int) (Go.IntKind.wrap Go.IntKind.i64 ((↑(Int.toNat (g9 (Int.toNat x3) (0 : Nat))) : Int) + (1 : Int))))).L))]))
 (.no))
 (.no))
 (.no))
 (.no))
 (.no))
 (.br 46 (Go.AM.within x3 n9)
 (.br 50 (Go.IntKind.wrap Go.IntKind.i64 ((↑(Int.toNat (g9 (Int.toNat x3) (0 : Nat))) : Int) + (1 : Int)) != (0 : Int))
 (.br 0 (Go.Proofs.Ythgagehgiooklaa.G.pdec (Go.Proofs.Ythgagehgiooklaa.G.RMem.hasOk { n := n8, S := g8, k := n9, G := g9, L := h9, off := x4, left := x5, count := x6 } x3 (Int.tmod (0 : Int) (Go.IntKind.wrap Go.IntKind.i64 ((↑(Int.toNat (g9 (Int.toNat x3) (0 : Nat))) : Int) + (1 : Int))))))
 (.br 57 (Go.AM.within x3 (Go.Proofs.Ythgagehgiooklaa.G.RMem.suM { n := n8, S := g8, k := n9, G := g9, L := h9, off := x4, left := x5, count := x6 } x3 (Int.tmod (0 : Int) (Go.IntKind.wrap Go.IntKind.i64 ((↑(Int.toNat (g9 (Int.toNat x3) (0 : Nat))) : Int) + (1 : Int))))).k)
 (.br 0 (Bool.true)
 (.ok (.normal, [(.n (x0)), (.n (x1)), (.i (Go.IntKind.wrap Go.IntKind.i64 (x2 + (1 : Int)))), (.i (Go.IntKind.wrap Go.IntKind.i64 (x3 + (1 : Int)))), (.b ((Go.Proofs.Ythgagehgiooklaa.G.RMem.suM { n := n8, S := g8, k := n9, G := g9, L := h9, off := x4, left := x5, count := x6 } x3 (Int.tmod (0 : Int) (Go.IntKind.wrap Go.IntKind.i64 ((↑(Int.toNat (g9 (Int.toNat x3) (0 : Nat))) : Int) + (1 : Int))))).off)), (.i ((Go.Proofs.Ythgagehgiooklaa.G.RMem.suM { n := n8, S := g8, k := n9, G := g9, L := h9, off := x4, left := x5, count := x6 } x3 (Int.tmod (0 : Int) (Go.IntKind.wrap Go.IntKind.i64 ((↑(Int.toNat (g9 (Int.toNat x3) (0 : Nat))) : Int) + (1 : Int))))).left)), (.i ((Go.Proofs.Ythgagehgiooklaa.G.RMem.suM { n := n8, S := g8, k := n9, G := g9, L := h9, off := x4, left := x5, count := x6 } x3 (Int.tmod (0 : Int) (Go.IntKind.wrap Go.IntKind.i64 ((↑(Int.toNat (g9 (Int.toNat x3) (0 : Nat))) : Int) + (1 : Int))))).count)), (.r (n7) (g7)), (.r ((Go.Proofs.Ythgagehgiooklaa.G.RMem.suM { n := n8, S := g8, k := n9, G := g9, L := h9, off := x4, left := x5, count := x6 } x3 (Int.tmod (0 : Int) (Go.IntKind.wrap Go.IntKind.i64 ((↑(Int.toNat (g9 (Int.toNat x3) (0 : Nat))) : Int) + (1 : Int))))).n) ((Go.Proofs.Ythgagehgiooklaa.G.RMem.suM { n := n8, S := g8, k := n9, G := g9, L := h9, off := x4, left := x5, count := x6 } x3 (Int.tmod (0 : Int) (Go.IntKind.wrap Go.IntKind.i64 ((↑(Int.toNat (g9 (Int.toNat x3) (0 : Nat))) : Int) + (1 : Int))))).S)), (.q ((Go.Proofs.Ythgagehgiooklaa.G.RMem.suM { n := n8, S := g8, k := n9, G := g9, L := h9, off := x4, left := x5, count := x6 } x3 (Int.tmod (0 : Int) (Go.IntKind.wrap Go.IntKind.i64 ((↑(Int.toNat (g9 (Int.toNat x3) (0 : Nat))) : Int) + (1 : Int))))).k) (Go.AM.updG (Go.Proofs.Ythgagehgiooklaa.G.RMem.suM { n := n8, S := g8, k := n9, G := g9, L := h9, off := x4, left := x5, count := x6 } x3 (Int.tmod (0 : Int) (Go.IntKind.wrap Go.IntKind.i64 ((↑(Int.toNat (g9 (Int.toNat x3) (0 : Nat))) : Int) + (1 : Int))))).G (Int.toNat x3) (0 : Nat) (0 : Int)) ((0 : Nat)) ((10 : Nat)) ((Go.Proofs.Ythgagehgiooklaa.G.RMem.suM { n := n8, S := g8, k := n9, G := g9, L := h9, off := x4, left := x5, count := x6 } x3 (Int.tmod (0 : Int) (Go.IntKind.wrap Go.IntKind.i64 ((↑(Int.toNat (g9 (Int.toNat x3) (0 : Nat))) : Int) + (1 : Int))))).L))]))
 (.no))
 (.no))
 (.no))
 (.no))
 (.no)))))
 (.no))
 (.ok (.exit 0, [(.b (x4)), (.i (x5)), (.i (x6)), (.r (n8) (g8)), (.q (n9) (g9) ((0 : Nat)) ((10 : Nat)) (h9))]))
noncomputable def y_rcrash_2 : Nat → Option Nat := (syOf3 [13, 21, 24, 28, 31, 34, 46, 50, 57] [] [])
noncomputable def BL_rcrash_2 (l : List At) : Tr (Ex × List At) := B_rcrash_2 (aN l 0) (aN l 1) (aI l 2) (aI l 3) (aB l 4) (aI l 5) (aI l 6) (aRn l 7) (aRg l 7) (aRn l 8) (aRg l 8) (aRn l 9) (aRg l 9) (aMh l 9 0 10)
theorem eB_rcrash_2 (l : List At) : (exec Try.prog Γ_RS2 y_rcrash_2 noLoops 100 (loopAt Try.f43 2) ⟨mkV lsh_rcrash_2 l, mkH lsh_rcrash_2 l⟩).bind (leafL 5 xs_rcrash_2) = BL_rcrash_2 l := by kernel_rfl
/- by hand: O_rcrash_2 (x0 : Nat) (x1 : Nat) (x2 : Int) (x3 : Int) (x4 : Bool) (x5 : Int) (x6 : Int) (n7 : Nat) (g7 : Nat → Nat → Int) (n8 : Nat) (g8 : Nat → Nat → Int) (n9 : Nat) (g9 : Nat → Nat → Int) (h9 : Nat → Nat → Int) : Tr (Ex × List At); OL_rcrash_2 (l) := O_rcrash_2 (aN l 0) (aN l 1) (aI l 2) (aI l 3) (aB l 4) (aI l 5) (aI l 6) (aRn l 7) (aRg l 7) (aRn l 8) (aRg l 8) (aRn l 9) (aRg l 9) (aMh l 9 0 10); μ_rcrash_2 : List At → Nat; rd_rcrash_2 : ∀ l r, (OL_rcrash_2 l).val = some r → RoundA BL_rcrash_2 OL_rcrash_2 μ_rcrash_2 l r -/

end Go.Proofs.Ythgagehgiooklaa.G
end

/-
  The loop of the reference's Crash: of each line that has stores some first ones become sure, the others are lost.
-/
section
namespace Go.Proofs.Ythgagehgiooklaa.G
open Go Go.AM Go.Proofs

def rcnt (G : Nat → Nat → Int) : (a d : Nat) → Nat
  | _, 0 => 0
  | a, d + 1 => (if G a 0 > 0 then 1 else 0) + rcnt G (a + 1) d
theorem rcnt_congr {g g' : Nat → Nat → Int} : ∀ (d a : Nat), (∀ i, a ≤ i → i < a + d → g i 0 = g' i 0) → rcnt g a d = rcnt g' a d
  | 0, _, _ => rfl
  | d + 1, a, h => by
    rw [rcnt, rcnt, h a (Nat.le_refl _) (by omega), rcnt_congr d (a + 1) fun i h1 h2 => h i (by omega) (by omega)]

def RMem.crF (y : RMem) (q : Nat → Int) (kn at' a : Nat) : RMem := y.wit (fun i => if a ≤ i ∧ i < y.n ∧ y.G i 0 > 0 then rsS (y.S i) (y.L i) (crK q kn (at' + rcnt y.G a (i - a)) (y.G i 0)) else y.S i)
  (fun i c => if c = 0 ∧ a ≤ i ∧ i < y.n then 0 else y.G i c) y.L

theorem crF_skip (y : RMem) (q : Nat → Int) (kn at' a : Nat) (h : y.G a 0 = 0) : y.crF q kn at' (a + 1) = y.crF q kn at' a := by
  unfold RMem.crF RMem.wit
  have e1 : (fun i => if a + 1 ≤ i ∧ i < y.n ∧ y.G i 0 > 0 then rsS (y.S i) (y.L i) (crK q kn (at' + rcnt y.G (a + 1) (i - (a + 1))) (y.G i 0)) else y.S i) = fun i => if a ≤ i ∧ i < y.n ∧ y.G i 0 > 0 then rsS (y.S i) (y.L i) (crK q kn (at' + rcnt y.G a (i - a)) (y.G i 0)) else y.S i := by
    funext i
    by_cases hi : i = a
    · subst hi
      rw [if_neg (by omega), if_neg (by omega)]
    · by_cases hc : a ≤ i ∧ i < y.n ∧ y.G i 0 > 0
      · obtain ⟨d, hd⟩ : ∃ d, i = a + (d + 1) := ⟨i - (a + 1), by omega⟩
        have e1 : i - (a + 1) = d := by omega
        have e2 : i - a = d + 1 := by omega
        rw [if_pos ⟨by omega, hc.2⟩, if_pos hc, e1, e2, rcnt, if_neg (by omega), Nat.zero_add]
      · rw [if_neg (fun hh => hc ⟨by omega, hh.2⟩), if_neg hc]
  have e2 : (fun i c => if c = 0 ∧ a + 1 ≤ i ∧ i < y.n then 0 else y.G i c) = fun i c => if c = 0 ∧ a ≤ i ∧ i < y.n then 0 else y.G i c := by
    funext i c
    by_cases hi : i = a
    · subst hi
      rw [if_neg (by omega)]
      split
      · rename_i hc; rw [hc.1, h]
      · rfl
    · by_cases hc : c = 0 ∧ a ≤ i ∧ i < y.n
      · rw [if_pos (by omega), if_pos hc]
      · rw [if_neg (by omega), if_neg hc]
  rw [e1, e2]

theorem crF_end (y : RMem) (q : Nat → Int) (kn at' a : Nat) (ha : y.n ≤ a) : y.crF q kn at' a = y := by
  unfold RMem.crF RMem.wit
  have e1 : (fun i => if a ≤ i ∧ i < y.n ∧ y.G i 0 > 0 then rsS (y.S i) (y.L i) (crK q kn (at' + rcnt y.G a (i - a)) (y.G i 0)) else y.S i) = y.S := funext fun i => if_neg (by omega)
  have e2 : (fun i c => if c = 0 ∧ a ≤ i ∧ i < y.n then 0 else y.G i c) = y.G := funext fun i => funext fun c => if_neg (by omega)
  rw [e1, e2]

/-- A line that was crashed. -/
def RMem.cr1 (y : RMem) (i : Nat) (m : Int) : RMem := (y.suM i m).wit (y.suM i m).S (updG (y.suM i m).G i 0 0) (y.suM i m).L

theorem crF_step (y : RMem) (q : Nat → Int) (kn at' a : Nat) (ha : a < y.n) (hG : y.G a 0 > 0) (m : Int) (hm : m.toNat = crK q kn at' (y.G a 0)) :
    AtsEq ((y.cr1 a m).crF q kn (at' + 1) (a + 1)).ats (y.crF q kn at' a).ats := by
  have g1 : ∀ i, i ≠ a → (y.cr1 a m).G i = y.G i := fun i hi => by
    show updG (updG y.G a 0 _) a 0 0 i = y.G i
    rw [updG_row, updR_ne hi, updG_row, updR_ne hi]
  have hS : ((y.cr1 a m).crF q kn (at' + 1) (a + 1)).S = (y.crF q kn at' a).S := by
    funext i
    show (if a + 1 ≤ i ∧ i < y.n ∧ (y.cr1 a m).G i 0 > 0 then rsS (updR y.S a (rsS (y.S a) (y.L a) m.toNat) i) (updR y.L a (rsL (y.L a) m.toNat) i) (crK q kn (at' + 1 + rcnt (y.cr1 a m).G (a + 1) (i - (a + 1))) ((y.cr1 a m).G i 0)) else updR y.S a (rsS (y.S a) (y.L a) m.toNat) i) = if a ≤ i ∧ i < y.n ∧ y.G i 0 > 0 then rsS (y.S i) (y.L i) (crK q kn (at' + rcnt y.G a (i - a)) (y.G i 0)) else y.S i
    by_cases hi : i = a
    · subst hi
      rw [if_neg (by omega), updR_self, if_pos ⟨Nat.le_refl _, ha, hG⟩, Nat.sub_self, rcnt, Nat.add_zero, hm]
    · rw [g1 i hi, updR_ne hi, updR_ne hi]
      by_cases hc : a ≤ i ∧ i < y.n ∧ y.G i 0 > 0
      · obtain ⟨d, hd⟩ : ∃ d, i = a + (d + 1) := ⟨i - (a + 1), by omega⟩
        have e1 : i - (a + 1) = d := by omega
        have e2 : i - a = d + 1 := by omega
        rw [if_pos ⟨by omega, hc.2⟩, if_pos hc, e1, e2, rcnt, if_pos hG, rcnt_congr (g := (y.cr1 a m).G) (g' := y.G) d (a + 1) fun j h1 _ => congrFun (g1 j (by omega)) 0, show at' + 1 + rcnt y.G (a + 1) d = at' + (1 + rcnt y.G (a + 1) d) by omega]
      · rw [if_neg (fun hh => hc ⟨by omega, hh.2⟩), if_neg hc]
  have hGG : ((y.cr1 a m).crF q kn (at' + 1) (a + 1)).G = (y.crF q kn at' a).G := by
    funext i c
    show (if c = 0 ∧ a + 1 ≤ i ∧ i < y.n then 0 else (y.cr1 a m).G i c) = if c = 0 ∧ a ≤ i ∧ i < y.n then 0 else y.G i c
    by_cases hi : i = a
    · subst hi
      rw [if_neg (by omega)]
      show updG (updG y.G i 0 _) i 0 0 i c = _
      rw [updG_row, updR_self, updG_row, updR_self]
      by_cases hc : c = 0
      · rw [if_pos hc, if_pos ⟨hc, Nat.le_refl _, ha⟩]
      · rw [if_neg hc, if_neg hc, if_neg (fun hh => hc hh.1)]
    · rw [g1 i hi]
      by_cases hc : c = 0 ∧ a ≤ i ∧ i < y.n
      · rw [if_pos (by omega), if_pos hc]
      · rw [if_neg (by omega), if_neg hc]
  unfold RMem.ats
  rw [hS, hGG]
  refine atsEq_cons (AtEq.refl _) (atsEq_cons (AtEq.refl _) (atsEq_cons (AtEq.refl _) (atsEq_cons (AtEq.refl _) (atsEq_cons (atEq_q rfl (fun _ _ _ => rfl) fun i hi k hk => ?_) atsEq_nil))))
  by_cases hia : i = a
  · subst hia
    have : (y.crF q kn at' i).G i 0 = 0 := if_pos ⟨rfl, Nat.le_refl _, ha⟩
    rw [this] at hk
    exact absurd hk (by simp)
  · show updR y.L a _ i k = y.L i k
    rw [updR_ne hia]

def rpC (x1 : Nat) (x2 x3 : Int) (q : Nat → Int) (y : RMem) : Prop := (0 ≤ x2 ∧ x2 ≤ x3) ∧ x3 ≤ y.n ∧ (y.k = y.n ∧ y.n ≤ 1073741824) ∧ (∀ i, x3.toNat ≤ i → i < y.n → RRowOk (y.G i 0) (y.L i)) ∧ ∀ j, j < x1 → -9223372036854775808 ≤ q j ∧ q j ≤ 9223372036854775807

noncomputable def O_rcrash_2 (x0 x1 : Nat) (x2 x3 : Int) (g7 : Nat → Nat → Int) (y : RMem) : Tr (Ex × List At) :=
  .br 0 (pdec (rpC x1 x2 x3 (fun j => g7 (x0 + j) 0) y)) (.ok (.exit 0, (y.crF (fun j => g7 (x0 + j) 0) x1 x2.toNat x3.toNat).ats)) .no
def mmk (l : List At) : RMem := ⟨aRn l 8, aRg l 8, aRn l 9, aRg l 9, aMh l 9 0 10, aB l 4, aI l 5, aI l 6⟩
noncomputable def OL_rcrash_2 (l : List At) : Tr (Ex × List At) := O_rcrash_2 (aN l 0) (aN l 1) (aI l 2) (aI l 3) (aRg l 7) (mmk l)
def μ_rcrash_2 (l : List At) : Nat := ((aRn l 8 : Int) - aI l 3).toNat

theorem rtmod_ok {v s : Int} (hv : 0 ≤ v) (hs : 0 ≤ s) : 0 ≤ Int.tmod v (s + 1) ∧ Int.tmod v (s + 1) ≤ s ∧ Int.tmod v (s + 1) = v % (s + 1) := by
  have e := Int.tmod_eq_emod_of_nonneg (b := s + 1) hv
  rw [e]
  have h1 := Int.emod_nonneg v (b := s + 1) (by omega)
  have h2 := Int.emod_lt_of_pos v (b := s + 1) (by omega)
  exact ⟨h1, by omega, rfl⟩

theorem rd_rcrash_2 : ∀ l r, (OL_rcrash_2 l).val = some r → RoundS BL_rcrash_2 OL_rcrash_2 μ_rcrash_2 l r := by
  intro l r h
  obtain ⟨hc, h⟩ := guard_val h
  obtain ⟨⟨c0, c1⟩, c3, ⟨c4, c5⟩, c6, c7⟩ := of_pdec hc
  unfold RoundS BL_rcrash_2 B_rcrash_2
  simp only [mmk] at c3 c4 c5 c6 h
  generalize hx0 : aN l 0 = x0 at *
  generalize hx1 : aN l 1 = x1 at *
  generalize hx2 : aI l 2 = x2 at *
  generalize hx3 : aI l 3 = x3 at *
  generalize hn : aRn l 8 = n at *
  generalize hS : aRg l 8 = S at *
  generalize hk : aRn l 9 = k at *
  generalize hg : aRg l 9 = g at *
  generalize hh : aMh l 9 0 10 = hm at *
  generalize hn7 : aRn l 7 = n7 at *
  generalize hg7 : aRg l 7 = g7 at *
  generalize hb : aB l 4 = x4 at *
  generalize hb3 : aI l 5 = x5 at *
  generalize hb4 : aI l 6 = x6 at *
  refine brD (fun h1 => brT (by simp [within]; omega) ?_) (fun h1 => ?_)
  · have hw : IntKind.i64.wrap (x3 + 1) = x3 + 1 := wrap_i64 (by omega) (by omega)
    have hw2 : IntKind.i64.wrap (x2 + 1) = x2 + 1 := wrap_i64 (by omega) (by omega)
    have e2 : (x3 + 1).toNat = x3.toNat + 1 := by omega
    have e2' : (x2 + 1).toNat = x2.toNat + 1 := by omega
    have hμ : ((n : Int) - (x3 + 1)).toNat < μ_rcrash_2 l := by unfold μ_rcrash_2; rw [hn, hx3]; omega
    have ho := c6 x3.toNat (Nat.le_refl _) (by omega)
    obtain ⟨o1, o2, o3⟩ := ho
    rw [hw, hw2, Int.toNat_of_nonneg o1, wrap_i64 (x := g x3.toNat 0 + 1) (by omega) (by omega)]
    refine brQ (fun h2 => ?_) (fun h2 => ?_)
    · have key := crF_skip ⟨n, S, k, g, hm, x4, x5, x6⟩ (fun j => g7 (x0 + j) 0) x1 x2.toNat x3.toNat h2
      rw [← e2] at key
      rw [← key] at h
      have hq : rpC x1 x2 (x3 + 1) (fun j => g7 (x0 + j) 0) ⟨n, S, k, g, hm, x4, x5, x6⟩ := ⟨⟨c0, by omega⟩, by show x3 + 1 ≤ (n : Int); omega, ⟨c4, c5⟩, fun i h5 h6 => c6 i (by omega) h6, c7⟩
      exact on_ _ r (AtsEq.refl _) hμ ((br_t (g := 0) (pdec_yes hq)).trans h) rfl (AtsEq.refl _)
    · have hpos : g x3.toNat 0 > 0 := by omega
      have hq : ∀ m : Int, rpC x1 (x2 + 1) (x3 + 1) (fun j => g7 (x0 + j) 0) (RMem.cr1 ⟨n, S, k, g, hm, x4, x5, x6⟩ x3.toNat m) := fun m => ⟨⟨by omega, by omega⟩, by show x3 + 1 ≤ (n : Int); omega, ⟨c4, c5⟩, fun i h5 h6 => by
        show RRowOk (updG (updG g _ 0 _) x3.toNat 0 0 i 0) (updR hm _ _ i)
        have hne : i ≠ x3.toNat := by omega
        have hne2 : i ≠ (x3.toNat : Int).toNat := by omega
        rw [updG_row, updR_ne hne, updG_row, updR_ne hne2, updR_ne hne2]
        exact c6 i (by omega) h6, c7⟩
      have go : ∀ m : Int, 0 ≤ m → m ≤ g x3.toNat 0 → m.toNat = crK (fun j => g7 (x0 + j) 0) x1 x2.toNat (g x3.toNat 0) →
          (Tr.br 0 (pdec (RMem.hasOk ⟨n, S, k, g, hm, x4, x5, x6⟩ x3 m)) (.br 57 (within x3 (RMem.suM ⟨n, S, k, g, hm, x4, x5, x6⟩ x3 m).k) (.br 0 true (.ok (Ex.normal, [At.n x0, .n x1, .i (x2 + 1), .i (x3 + 1), .b (RMem.suM ⟨n, S, k, g, hm, x4, x5, x6⟩ x3 m).off, .i (RMem.suM ⟨n, S, k, g, hm, x4, x5, x6⟩ x3 m).left, .i (RMem.suM ⟨n, S, k, g, hm, x4, x5, x6⟩ x3 m).count, .r n7 g7,
            .r (RMem.suM ⟨n, S, k, g, hm, x4, x5, x6⟩ x3 m).n (RMem.suM ⟨n, S, k, g, hm, x4, x5, x6⟩ x3 m).S, .q (RMem.suM ⟨n, S, k, g, hm, x4, x5, x6⟩ x3 m).k (updG (RMem.suM ⟨n, S, k, g, hm, x4, x5, x6⟩ x3 m).G x3.toNat 0 0) 0 10 (RMem.suM ⟨n, S, k, g, hm, x4, x5, x6⟩ x3 m).L])) .no) .no) .no).sat
            fun p => (p.1 = .normal ∧ ∃ l2 r', AtsEq p.2 l2 ∧ μ_rcrash_2 l2 < μ_rcrash_2 l ∧ (OL_rcrash_2 l2).val = some r' ∧ r'.1 = r.1 ∧ AtsEq r'.2 r.2) ∨ (p.1 ≠ .normal ∧ r.1 = p.1 ∧ AtsEq p.2 r.2) := by
        intro m m0 m1 m2
        refine brT (pdec_yes ⟨m0, ⟨by omega, h1⟩, c4, m1, o1, o2, o3⟩) (brT (by show within x3 k = true; simp [within]; omega) (brT rfl ?_))
        have hx : ((x3.toNat : Nat) : Int) = x3 := by omega
        have key := crF_step ⟨n, S, k, g, hm, x4, x5, x6⟩ (fun j => g7 (x0 + j) 0) x1 x2.toNat x3.toNat (by show x3.toNat < n; omega) hpos m m2
        have hqm := hq m
        unfold RMem.cr1 at key hqm
        rw [hx] at key hqm
        rw [← e2, ← e2'] at key
        have hr := val_ok h
        subst hr
        exact on_ _ (.exit 0, _) (AtsEq.refl _) hμ (br_t (g := 0) (pdec_yes hqm)) rfl key
      refine brD (fun h3 => ?_) (fun h3 => ?_)
      · have hx2' : x2.toNat < x1 := by omega
        have hkv : kv (fun j => g7 (x0 + j) 0) x1 x2.toNat = if g7 (x0 + x2.toNat) 0 < 0 then -(g7 (x0 + x2.toNat) 0 + 1) else g7 (x0 + x2.toNat) 0 := by
          unfold kv; rw [if_pos hx2']
        have q12 : -9223372036854775808 ≤ g7 (x0 + x2.toNat) 0 ∧ g7 (x0 + x2.toNat) 0 ≤ 9223372036854775807 := c7 x2.toNat hx2'
        obtain ⟨q1, q2⟩ := q12
        refine brT (by simp [within]; omega) (brD (fun h4 => ?_) (fun h4 => ?_))
        · rw [wrap_i64 (x := g7 (x0 + x2.toNat) 0 + 1) (by omega) (by omega), wrap_i64 (x := 0 - (g7 (x0 + x2.toNat) 0 + 1)) (by omega) (by omega)]
          obtain ⟨t1, t2, t3⟩ := rtmod_ok (v := 0 - (g7 (x0 + x2.toNat) 0 + 1)) (s := g x3.toNat 0) (by omega) o1
          refine brT (by simp [within]; omega) (brNE (fun _ => go _ t1 t2 ?_) (fun hh => by exfalso; omega))
          rw [t3]; unfold crK; rw [hkv, if_pos h4, show 0 - (g7 (x0 + x2.toNat) 0 + 1) = -(g7 (x0 + x2.toNat) 0 + 1) by omega]
        · obtain ⟨t1, t2, t3⟩ := rtmod_ok (v := g7 (x0 + x2.toNat) 0) (s := g x3.toNat 0) (by omega) o1
          refine brT (by simp [within]; omega) (brNE (fun _ => go _ t1 t2 ?_) (fun hh => by exfalso; omega))
          rw [t3]; unfold crK; rw [hkv, if_neg h4]
      · have hx2' : ¬ x2.toNat < x1 := by omega
        obtain ⟨t1, t2, t3⟩ := rtmod_ok (v := 0) (s := g x3.toNat 0) (by omega) o1
        refine brF rfl (brT (by simp [within]; omega) (brNE (fun _ => go _ t1 t2 ?_) (fun hh => by exfalso; omega)))
        rw [t3]; unfold crK kv; rw [if_neg hx2']
  · rw [crF_end _ _ _ _ _ (by show n ≤ x3.toNat; omega)] at h
    have hr := val_ok h
    subst hr
    exact out_ (by simp) rfl (AtsEq.refl _)
end Go.Proofs.Ythgagehgiooklaa.G
end

/-
  What functions of the seat compute, printed by a program from the explorer.
-/
section
namespace Go.Proofs.Ythgagehgiooklaa.G
open Go Go.AM Go.Proofs
theorem f_rcrash_2 : LoopF Try.prog 5 (loopAt Try.f43 2) (loopFn 5 lsh_rcrash_2 xs_rcrash_2 OL_rcrash_2) :=
  loop_sat (sy := y_rcrash_2) (fuel := 100) (Lp := noLoops) o_RS2 mixed (loopsOK_at (noLoops_ok _) 2) rfl eB_rcrash_2 rd_rcrash_2
noncomputable def Lp_rcrash_2 : Loops := Loops.set noLoops 2 (loopFn 5 lsh_rcrash_2 xs_rcrash_2 OL_rcrash_2)
theorem lk_rcrash_2 : LoopsFn Try.prog 5 Lp_rcrash_2 Try.f43 := loopsFn_set (noLoops_ok _) (by kernel_rfl) f_rcrash_2

/-! ### rcrash -/

noncomputable def ish_rcrash : FSh := ⟨[.v false [.p 0 0], .v false [.vw 1 1]], [.cells [.sw 2 8, .sw 3 1, .k .b, .k (.n .i64), .k (.n .i64)], .rows [.n .i64] false, .rows [.n .u64, .n .u64, .n .u64, .n .u64, .n .u64, .n .u64, .n .u64, .n .u64] true, .nrows [.n .i64] 0 [.n .i64, .n .u64, .b, .b, .b, .b, .b, .b, .b, .b] 4 false true, .no]⟩
noncomputable def osh_rcrash : FSh := ⟨[.tup []], [.cells [.sw 2 8, .sw 3 1, .k .b, .k (.n .i64), .k (.n .i64)], .no, .rows [.n .u64, .n .u64, .n .u64, .n .u64, .n .u64, .n .u64, .n .u64, .n .u64] true, .nrows [.n .i64] 0 [.n .i64, .n .u64, .b, .b, .b, .b, .b, .b, .b, .b] 5 false true, .no, .no]⟩
noncomputable def T_rcrash (x0 : Bool) (x1 : Int) (x2 : Int) (n3 : Nat) (g3 : Nat → Nat → Int) (n4 : Nat) (g4 : Nat → Nat → Int) (n5 : Nat) (g5 : Nat → Nat → Int) (h5 : Nat → Nat → Int) : Tr (List At) :=
 .br 0 (Go.Proofs.Ythgagehgiooklaa.G.pdec (Go.Proofs.Ythgagehgiooklaa.G.rpC n3 (0 : Int) (0 : Int) (fun (j : Nat) => g3 ((0 : Nat) + j) (0 : Nat)) { n := n4, S := g4, k := n5, G := g5, L := h5, off := x0, left := x1, count := x2 }))
 (.ok [(.b (Bool.false)), (.i ((-1 : Int))), (.i ((Go.Proofs.Ythgagehgiooklaa.G.RMem.crF { n := n4, S := g4, k := n5, G := g5, L := h5, off := x0, left := x1, count := x2 } (fun (j : Nat) => g3 ((0 : Nat) + j) (0 : Nat)) n3 (0 : Nat) (0 : Nat)).count)), (.r ((Go.Proofs.Ythgagehgiooklaa.G.RMem.crF { n := n4, S := g4, k := n5, G := g5, L := h5, off := x0, left := x1, count := x2 } (fun (j : Nat) => g3 ((0 : Nat) + j) (0 : Nat)) n3 (0 : Nat) (0 : Nat)).n) ((Go.Proofs.Ythgagehgiooklaa.G.RMem.crF { n := n4, S := g4, k := n5, G := g5, L := h5, off := x0, left := x1, count := x2 } (fun (j : Nat) => g3 ((0 : Nat) + j) (0 : Nat)) n3 (0 : Nat) (0 : Nat)).S)), (.q ((Go.Proofs.Ythgagehgiooklaa.G.RMem.crF { n := n4, S := g4, k := n5, G := g5, L := h5, off := x0, left := x1, count := x2 } (fun (j : Nat) => g3 ((0 : Nat) + j) (0 : Nat)) n3 (0 : Nat) (0 : Nat)).k) ((Go.Proofs.Ythgagehgiooklaa.G.RMem.crF { n := n4, S := g4, k := n5, G := g5, L := h5, off := x0, left := x1, count := x2 } (fun (j : Nat) => g3 ((0 : Nat) + j) (0 : Nat)) n3 (0 : Nat) (0 : Nat)).G) ((0 : Nat)) ((10 : Nat)) ((Go.Proofs.Ythgagehgiooklaa.G.RMem.crF { n := n4, S := g4, k := n5, G := g5, L := h5, off := x0, left := x1, count := x2 } (fun (j : Nat) => g3 ((0 : Nat) + j) (0 : Nat)) n3 (0 : Nat) (0 : Nat)).L))])
 (.no)
noncomputable def y_rcrash : Nat → Option Nat := (syOf3 [] [] [])
noncomputable def TL_rcrash (l : List At) : Tr (List At) := T_rcrash (aB l 0) (aI l 1) (aI l 2) (aRn l 3) (aRg l 3) (aRn l 4) (aRg l 4) (aRn l 5) (aRg l 5) (aMh l 5 0 10)
theorem e_rcrash (l : List At) : (call Try.prog Γ_RS2 y_rcrash Lp_rcrash_2 100 Try.f43 (mkV ish_rcrash l) (mkH ish_rcrash l)).bind (leafO 5 osh_rcrash) = TL_rcrash l := by kernel_rfl
noncomputable def F_rcrash : List At → Tr (List At) := TL_rcrash
theorem s_rcrash : SpecF Try.prog 43 (.eff (locF ish_rcrash osh_rcrash F_rcrash)) :=
  spec_loc (sy := y_rcrash) (fuel := 100) (Lp := Lp_rcrash_2) o_RS2 mixed ⟨Try.func43, by kernel_rfl, by kernel_rfl⟩ ish_rcrash osh_rcrash lk_rcrash_2 (hT_ways e_rcrash)
noncomputable def Γ_rcrash : Specs := upd Γ_RS2 43 (.eff (locF ish_rcrash osh_rcrash F_rcrash))
theorem o_rcrash : SpecOK Try.prog Γ_rcrash := SpecOK.upd o_RS2 s_rcrash

end Go.Proofs.Ythgagehgiooklaa.G
end
