/-
  What functions of the seat compute, printed by a program from the explorer.
-/
import Derived.Test.YthgagehgiooklaaG8ToO7l
import Derived.KernelRfl
section
namespace Go.Proofs.Ythgagehgiooklaa.G
open Go Go.AM Go.Proofs
theorem f_NvmLast_7 : LoopF Try.prog 2 (loopAt Try.f7 7) (loopFn 2 lsh_NvmLast_7 xs_NvmLast_7 OL_NvmLast_7) :=
  loop_sat (sy := y_NvmLast_7) (fuel := 100) (Lp := noLoops) o_S13 mixed (loopsOK_at (noLoops_ok _) 7) rfl eB_NvmLast_7 rd_NvmLast_7
noncomputable def Lp_NvmLast_7 : Loops := Loops.set noLoops 7 (loopFn 2 lsh_NvmLast_7 xs_NvmLast_7 OL_NvmLast_7)
theorem lk_NvmLast_7 : LoopsFn Try.prog 2 Lp_NvmLast_7 Try.f7 := loopsFn_set (noLoops_ok _) (by kernel_rfl) f_NvmLast_7

/-! ### the loop at 21 of NvmLast -/

noncomputable def lsh_NvmLast_21 : FSh := ⟨[.any, .any, .any, .any, .v false [.p 2 0], .any, .v false [.sw 3 8], .any, .any, .v false [.k (.n .i64)], .any, .any, .any, .any, .any, .any, .any, .any, .any, .any, .any, .any, .any, .any, .any, .any, .any, .any, .any, .any, .any, .any, .any, .any, .any, .any, .any, .any, .any, .any, .any, .any, .any, .any, .any, .any, .any, .any, .any, .any, .any, .any, .any, .any, .any, .any, .any, .any, .any, .any, .any, .any, .any, .any, .any, .any, .any, .any, .any, .any, .any, .any, .any, .any, .any, .any, .any, .any, .any, .any, .any, .any, .any, .any, .any, .any, .any, .any, .any, .any, .any, .any, .any, .any, .any, .any, .any, .any, .any, .any, .any, .any, .any], [.no, .no, .cells [.sw 4 25, .k .b, .k .b, .k (.n .i64), .k (.n .i64)], .rows [.n .u64, .n .u64, .n .u64, .n .u64, .n .u64, .n .u64, .n .u64, .n .u64] true, .nrows [.n .u64, .n .u64, .n .u64, .n .u64, .n .u64, .n .u64, .n .u64, .n .u64, .n .u64, .n .u64, .n .u64, .n .u64, .n .u64, .n .u64, .n .u64, .n .u64, .n .i64, .n .i64, .n .i64, .n .i64, .n .i64, .n .i64, .n .i64, .n .i64, .n .i64] 16 [.n .i64, .n .u64] 5 false true, .no]⟩
noncomputable def xsh_NvmLast_21_0 : FSh := ⟨[.any, .any, .any, .any, .any, .any, .any, .any, .any, .any, .any, .any, .any, .any, .any, .any, .any, .any, .any, .any, .any, .any, .any, .any, .any, .any, .any, .any, .any, .any, .any, .any, .any, .any, .any, .any, .any, .any, .any, .any, .any, .any, .any, .any, .any, .any, .any, .any, .any, .any, .any, .any, .any, .any, .any, .any, .any, .any, .any, .any, .any, .any, .any, .any, .any, .any, .any, .any, .any, .any, .any, .any, .any, .any, .any, .any, .any, .any, .any, .any, .any, .any, .any, .any, .any, .any, .any, .any, .any, .any, .any, .any, .any, .any, .any, .any, .any, .any, .any, .any, .any, .any, .any], [.no, .no]⟩
noncomputable def xsh_NvmLast_21_1 : FSh := ⟨[.any, .any, .v false [.k .b], .any, .any, .any, .any, .any, .any, .any, .any, .any, .any, .any, .any, .any, .any, .any, .any, .any, .any, .any, .any, .any, .any, .any, .any, .any, .any, .any, .any, .any, .any, .any, .any, .any, .any, .any, .any, .any, .any, .any, .any, .any, .any, .any, .any, .any, .any, .any, .any, .any, .any, .any, .any, .any, .any, .any, .any, .any, .any, .any, .any, .any, .any, .any, .any, .any, .any, .any, .any, .any, .any, .any, .any, .any, .any, .any, .any, .any, .any, .any, .any, .any, .any, .any, .any, .any, .any, .any, .any, .any, .any, .any, .any, .any, .any, .any, .any, .any, .any, .any, .any], [.no, .no]⟩
noncomputable def xs_NvmLast_21 : Exs := fun e => match e with
  | .normal => some lsh_NvmLast_21
  | .exit n => (match Nat.beq n 3 with | true => some xsh_NvmLast_21_0 | false => none)
  | .ret => some xsh_NvmLast_21_1
noncomputable def B_NvmLast_21 (x0 : Int) (x1 : Bool) (x2 : Bool) (x3 : Int) (x4 : Int) (n5 : Nat) (g5 : Nat → Nat → Int) (n6 : Nat) (g6 : Nat → Nat → Int) (h6 : Nat → Nat → Int) : Tr (Ex × List At) :=
 .br 84 (Decidable.decide (x0 < (64 : Int)))
 (.br 95 (Go.Proofs.Ythgagehgiooklaa.G.Mem.ldC { n := n6, g := g6, h := h6, off := x1, burns := x2, left := x3, steps := x4 } x0 != (0 : Int))
 (.ok (.ret, [(.b (Bool.false))]))
 (.br 99 (Go.AM.within x0 n5)
 (.br 102 (!(Go.Proofs.Ythgagehgiooklaa.G.Mem.ldW { n := n6, g := g6, h := h6, off := x1, burns := x2, left := x3, steps := x4 } x0 (0 : Nat) == g5 (Int.toNat x0) (0 : Nat) && (Go.Proofs.Ythgagehgiooklaa.G.Mem.ldW { n := n6, g := g6, h := h6, off := x1, burns := x2, left := x3, steps := x4 } x0 (1 : Nat) == g5 (Int.toNat x0) (1 : Nat) && (Go.Proofs.Ythgagehgiooklaa.G.Mem.ldW { n := n6, g := g6, h := h6, off := x1, burns := x2, left := x3, steps := x4 } x0 (2 : Nat) == g5 (Int.toNat x0) (2 : Nat) && (Go.Proofs.Ythgagehgiooklaa.G.Mem.ldW { n := n6, g := g6, h := h6, off := x1, burns := x2, left := x3, steps := x4 } x0 (3 : Nat) == g5 (Int.toNat x0) (3 : Nat) && (Go.Proofs.Ythgagehgiooklaa.G.Mem.ldW { n := n6, g := g6, h := h6, off := x1, burns := x2, left := x3, steps := x4 } x0 (4 : Nat) == g5 (Int.toNat x0) (4 : Nat) && (Go.Proofs.Ythgagehgiooklaa.G.Mem.ldW { n := n6, g := g6, h := h6, off := x1, burns := x2, left := x3, steps := x4 } x0 (5 : Nat) == g5 (Int.toNat x0) (5 : Nat) && (Go.Proofs.Ythgagehgiooklaa.G.Mem.ldW { n := n6, g := g6, h := h6, off := x1, burns := x2, left := x3, steps := x4 } x0 (6 : Nat) == g5 (Int.toNat x0) (6 : Nat) && (Go.Proofs.Ythgagehgiooklaa.G.Mem.ldW { n := n6, g := g6, h := h6, off := x1, burns := x2, left := x3, steps := x4 } x0 (7 : Nat) == g5 (Int.toNat x0) (7 : Nat) && Bool.true)))))))))
 (.ok (.ret, [(.b (Bool.false))]))
 (.ok (.normal, [(.i (Go.IntKind.wrap Go.IntKind.i64 (x0 + (1 : Int)))), (.b (x1)), (.b (x2)), (.i (x3)), (.i (x4)), (.r (n5) (g5)), (.q (n6) (g6) ((16 : Nat)) ((2 : Nat)) (h6))])))
 (.no)))
 (.ok (.exit 3, []))
noncomputable def y_NvmLast_21 : Nat → Option Nat := (syOf3 [84, 95, 99, 102] [] [])
noncomputable def BL_NvmLast_21 (l : List At) : Tr (Ex × List At) := B_NvmLast_21 (aI l 0) (aB l 1) (aB l 2) (aI l 3) (aI l 4) (aRn l 5) (aRg l 5) (aRn l 6) (aRg l 6) (aMh l 6 16 2)
theorem eB_NvmLast_21 (l : List At) : (exec Try.prog Γ_S13 y_NvmLast_21 Lp_NvmLast_7 100 (loopAt Try.f7 21) ⟨mkV lsh_NvmLast_21 l, mkH lsh_NvmLast_21 l⟩).bind (leafL 2 xs_NvmLast_21) = BL_NvmLast_21 l := by kernel_rfl
/- by hand: O_NvmLast_21 (x0 : Int) (x1 : Bool) (x2 : Bool) (x3 : Int) (x4 : Int) (n5 : Nat) (g5 : Nat → Nat → Int) (n6 : Nat) (g6 : Nat → Nat → Int) (h6 : Nat → Nat → Int) : Tr (Ex × List At); OL_NvmLast_21 (l) := O_NvmLast_21 (aI l 0) (aB l 1) (aB l 2) (aI l 3) (aI l 4) (aRn l 5) (aRg l 5) (aRn l 6) (aRg l 6) (aMh l 6 16 2); μ_NvmLast_21 : List At → Nat; rd_NvmLast_21 : ∀ l r, (OL_NvmLast_21 l).val = some r → RoundA BL_NvmLast_21 OL_NvmLast_21 μ_NvmLast_21 l r -/

end Go.Proofs.Ythgagehgiooklaa.G
end

/-
  What is now is what is sure, with the stores: whatever is done.
-/
section
namespace Go.Proofs.Ythgagehgiooklaa.G
open Go Go.AM Go.Proofs

theorem stM_coh {m : Mem} {i w v K : Int} (h : m.Coh) (ok : m.Ok K) : (m.stM i w v).Coh := by
  intro j hj
  rw [stM_n] at hj
  unfold Mem.stM
  cases hb : m.bad i w with
  | true => exact h j hj
  | false => cases m.po with
    | true => exact h j hj
    | false =>
      obtain ⟨h0, h1, h2, h3⟩ := bad_no hb
      show Coh (updR m.g i.toNat (stR (m.g i.toNat) w.toNat v) j) (updR m.h i.toNat (stH (m.h i.toNat) (m.g i.toNat 16).toNat w v) j)
      by_cases hji : j = i.toNat
      · subst hji
        rw [updR_self, updR_self]
        exact coh_st (h _ hj) (ok.2.2.2.2 _ hj).1.1 ⟨h2, h3⟩
      · rw [updR_ne hji, updR_ne hji]; exact h j hj

theorem flM_coh {m : Mem} {c i : Int} (h : m.Coh) : (m.flM c i).Coh := by
  intro j hj
  rw [flM_n] at hj
  unfold Mem.flM
  cases hb : m.bad i c with
  | true => exact h j hj
  | false => cases m.po with
    | true => exact h j hj
    | false =>
      show Coh (updR m.g i.toNat (flR (m.g i.toNat) c.toNat) j) (m.h j)
      by_cases hji : j = i.toNat
      · subst hji
        rw [updR_self]
        exact coh_fl (h _ hj)
      · rw [updR_ne hji]; exact h j hj

theorem feM_coh {m : Mem} {c K : Int} (h : m.Coh) (ok : m.Ok K) : (m.feM c).Coh := by
  intro j hj
  rw [feM_n] at hj
  unfold Mem.feM
  cases hb : corB c with
  | true => exact h j hj
  | false => cases m.po with
    | true => exact h j hj
    | false =>
      have hc := corB_no hb
      show Coh (feG m.n m.g m.h (17 + c.toNat) 0 j) (feH m.n m.g m.h (17 + c.toNat) 0 j)
      unfold feG feH
      by_cases hp : 0 ≤ j ∧ j < m.n ∧ m.g j (17 + c.toNat) > 0
      · rw [if_pos hp, if_pos hp]
        have := (ok.2.2.2.2 j hj).1.2.2.1 (17 + c.toNat) (by omega) (by omega)
        exact coh_rowS (h j hj) (by omega)
      · rw [if_neg hp, if_neg hp]; exact h j hj

theorem evM_coh {m : Mem} {i x K : Int} (h : m.Coh) (ok : m.Ok K) : (m.evM i x).Coh := by
  intro j hj
  rw [evM_n] at hj
  unfold Mem.evM
  cases hb : m.ebad i x with
  | true => exact h j hj
  | false => cases m.off with
    | true => exact h j hj
    | false =>
      obtain ⟨h0, h1, h2⟩ := ebad_no hb
      show Coh (updR m.g i.toNat (rowS (m.g i.toNat) (m.h i.toNat) (evK (m.g i.toNat) x)) j) (updR m.h i.toNat (hS (m.h i.toNat) (evK (m.g i.toNat) x)) j)
      by_cases hji : j = i.toNat
      · subst hji
        rw [updR_self, updR_self]
        exact coh_rowS (h _ hj) (evK_le (ok.2.2.2.2 _ hj).1.1 h2)
      · rw [updR_ne hji, updR_ne hji]; exact h j hj

theorem crM_coh {m : Mem} {q : Nat → Int} {kn : Nat} (h : m.Coh) : (m.crM q kn).Coh := by
  intro j hj
  have hj : j < m.n := hj
  show Coh (crG m.n m.g m.h q kn 0 j) (m.h j)
  unfold crG
  by_cases hp : 0 ≤ j ∧ j < m.n ∧ m.g j 16 > 0
  · rw [if_pos hp]; exact coh_crR
  · rw [if_neg hp]; exact h j hj

theorem newM_coh (n : Nat) : (newM n).Coh := fun _ _ _ _ => rfl

/-- Behind a crash nothing is unsure. -/
theorem crM_cnt {m : Mem} {q : Nat → Int} {kn : Nat} {K : Int} (ok : m.Ok K) {j : Nat} (hj : j < m.n) : (m.crM q kn).g j 16 = 0 := by
  show crG m.n m.g m.h q kn 0 j 16 = 0
  unfold crG
  have := (ok.2.2.2.2 j hj).1.1
  by_cases hp : 0 ≤ j ∧ j < m.n ∧ m.g j 16 > 0
  · rw [if_pos hp]; rfl
  · rw [if_neg hp]; omega

theorem coh_zero {r hr : Nat → Int} (h : Coh r hr) (h0 : r 16 = 0) (c : Nat) (hc : c < 8) : r c = r (8 + c) := by
  rw [h c hc, h0]; rfl
end Go.Proofs.Ythgagehgiooklaa.G
end

/-
  The last loop of NvmLast: each line is what was stored last.
-/
section
namespace Go.Proofs.Ythgagehgiooklaa.G
open Go Go.AM Go.Proofs

def preLl (x0 : Int) (n5 : Nat) (g5 : Nat → Nat → Int) (m : Mem) : Prop := 0 ≤ x0 ∧ n5 = 64 ∧ ∀ i : Nat, x0 ≤ (i : Int) → i < 64 → m.ldC (i : Int) = 0 ∧ ∀ c, c < 8 → m.ldW (i : Int) c = g5 i c

noncomputable def O_NvmLast_21 (x0 : Int) (n5 : Nat) (g5 : Nat → Nat → Int) (m : Mem) : Tr (Ex × List At) :=
  .br 0 (pdec (preLl x0 n5 g5 m)) (.ok (.exit 3, [])) .no
noncomputable def OL_NvmLast_21 (l : List At) : Tr (Ex × List At) := O_NvmLast_21 (aI l 0) (aRn l 5) (aRg l 5) ⟨aRn l 6, aRg l 6, aMh l 6 16 2, aB l 1, aB l 2, aI l 3, aI l 4⟩
def μ_NvmLast_21 (l : List At) : Nat := (64 - aI l 0).toNat

theorem rd_NvmLast_21 : ∀ l r, (OL_NvmLast_21 l).val = some r → RoundS BL_NvmLast_21 OL_NvmLast_21 μ_NvmLast_21 l r := by
  intro l r hh
  unfold OL_NvmLast_21 at hh
  obtain ⟨hc, h⟩ := guard_val hh
  clear hh
  obtain ⟨c0, c1, c2⟩ := of_pdec hc
  have hr := val_ok h
  unfold RoundS BL_NvmLast_21 B_NvmLast_21
  generalize hx0 : aI l 0 = x0 at *
  generalize hn5 : aRn l 5 = n5 at *
  generalize hg5 : aRg l 5 = g5 at *
  refine brD (fun h1 => ?_) (fun h1 => ?_)
  · obtain ⟨i, rfl⟩ := Int.eq_ofNat_of_zero_le c0
    have hw : IntKind.i64.wrap ((i : Int) + 1) = (i : Int) + 1 := wrap_i64 (by omega) (by omega)
    have hμ : (64 - ((i : Int) + 1)).toNat < μ_NvmLast_21 l := by unfold μ_NvmLast_21; rw [hx0]; omega
    obtain ⟨e1, e2⟩ := c2 i (Int.le_refl _) (by omega)
    rw [hw, Int.toNat_natCast]
    have hq : preLl ((i : Int) + 1) n5 g5 ⟨aRn l 6, aRg l 6, aMh l 6 16 2, aB l 1, aB l 2, aI l 3, aI l 4⟩ := ⟨by omega, c1, fun j h5 h6 => c2 j (by omega) h6⟩
    refine brF (by rw [e1]; rfl) (brW (fun _ => brF ?_ (on_ _ r (AtsEq.refl _) hμ ((br_t (g := 0) (pdec_yes hq)).trans h) rfl (AtsEq.refl _))) (fun hh => by exfalso; omega))
    rw [e2 0 (by omega), e2 1 (by omega), e2 2 (by omega), e2 3 (by omega), e2 4 (by omega), e2 5 (by omega), e2 6 (by omega), e2 7 (by omega)]
    simp
  · subst hr
    exact out_ (by simp) rfl (AtsEq.refl _)
end Go.Proofs.Ythgagehgiooklaa.G
end

/-
  What functions of the seat compute, printed by a program from the explorer.
-/
section
namespace Go.Proofs.Ythgagehgiooklaa.G
open Go Go.AM Go.Proofs
theorem f_NvmLast_21 : LoopF Try.prog 2 (loopAt Try.f7 21) (loopFn 2 lsh_NvmLast_21 xs_NvmLast_21 OL_NvmLast_21) :=
  loop_sat (sy := y_NvmLast_21) (fuel := 100) (Lp := Lp_NvmLast_7) o_S13 mixed (loopsOK_at lk_NvmLast_7 21) rfl eB_NvmLast_21 rd_NvmLast_21
noncomputable def Lp_NvmLast_21 : Loops := Loops.set Lp_NvmLast_7 21 (loopFn 2 lsh_NvmLast_21 xs_NvmLast_21 OL_NvmLast_21)
theorem lk_NvmLast_21 : LoopsFn Try.prog 2 Lp_NvmLast_21 Try.f7 := loopsFn_set lk_NvmLast_7 (by kernel_rfl) f_NvmLast_21

/-! ### NvmLast -/

noncomputable def ish_NvmLast : FSh := ⟨[.v false [.vw 0 6]], [.nrows [.n .i64, .n .i64, .n .i64, .n .i64, .n .u64, .n .i64] 5 [.n .i64] 1 false false, .no]⟩
noncomputable def osh_NvmLast : FSh := ⟨[.v false [.k .b]], [.no, .no]⟩
noncomputable def T_NvmLast (n0 : Nat) (g0 : Nat → Nat → Int) (h0 : Nat → Nat → Int) : Tr (List At) :=
 .br 0 (Bool.false)
 (.ok [(.b (Bool.false))])
 (.br 0 (Go.Proofs.Ythgagehgiooklaa.G.pdec (Go.Proofs.Ythgagehgiooklaa.G.preLa n0 (0 : Int) (64 : Nat) (fun (i : Nat) => g0 ((0 : Nat) + i)) (Go.Proofs.Ythgagehgiooklaa.G.newM (64 : Nat)) fun (_ _ : Nat) => (0 : Int)))
 (.br 0 (Go.Proofs.Ythgagehgiooklaa.G.pdec (Go.Proofs.Ythgagehgiooklaa.G.preLl (0 : Int) (64 : Nat) (Go.Proofs.Ythgagehgiooklaa.G.laW (fun (i : Nat) => g0 ((0 : Nat) + i)) (Min.min n0 (100 : Nat) - (0 : Nat)) (0 : Nat) (Go.Proofs.Ythgagehgiooklaa.G.newM (64 : Nat)) fun (_ _ : Nat) => (0 : Int)) (Go.Proofs.Ythgagehgiooklaa.G.laM (fun (i : Nat) => g0 ((0 : Nat) + i)) (Min.min n0 (100 : Nat) - (0 : Nat)) (0 : Nat) (Go.Proofs.Ythgagehgiooklaa.G.newM (64 : Nat)))))
 (.ok [(.b (Bool.true))])
 (.no))
 (.no))
noncomputable def y_NvmLast : Nat → Option Nat := (syOf3 [] [] [])
noncomputable def TL_NvmLast (l : List At) : Tr (List At) := T_NvmLast (aRn l 0) (aRg l 0) (aMh l 0 5 1)
theorem e_NvmLast (l : List At) : (call Try.prog Γ_S13 y_NvmLast Lp_NvmLast_21 100 Try.f7 (mkV ish_NvmLast l) (mkH ish_NvmLast l)).bind (leafO ish_NvmLast.hp.length ⟨[.v false [.k .b]], List.replicate ish_NvmLast.hp.length .no⟩) = TL_NvmLast l := by kernel_rfl

end Go.Proofs.Ythgagehgiooklaa.G
end

/-
  What functions of the seat compute, printed by a program from the explorer.
-/
section
namespace Go.Proofs.Ythgagehgiooklaa.G
open Go Go.AM Go.Proofs
/-! ### the loop at 9 of NvmApart -/

noncomputable def lsh_NvmApart_9 : FSh := ⟨[.v false [.sq 0 6], .v false [.k (.n .u64)], .any, .any, .any, .any, .v false [.p 2 0], .any, .v false [.k (.n .i64)], .any, .any, .any, .any, .any, .any, .any, .any, .any, .any, .any, .any, .any, .any, .any, .any, .any, .any, .any, .any, .any, .any, .any, .any, .any, .any, .any, .any, .any, .any, .any, .any, .any, .any, .any, .any, .any, .any, .any, .any, .any, .any, .any, .any, .any, .any, .any, .any, .any, .any, .any, .any, .any, .any, .any, .any, .any, .any, .any, .any, .any, .any, .any, .any, .any, .any, .any, .any, .any, .any, .any, .any, .any, .any, .any, .any, .any, .any, .any, .any, .any, .any, .any, .any, .any, .any, .any, .any, .any, .any, .any, .any, .any, .any, .any, .any], [.nrows [.n .i64, .n .i64, .n .i64, .n .i64, .n .u64, .n .i64] 5 [.n .i64] 1 false false, .no, .cells [.sw 3 25, .k .b, .k .b, .k (.n .i64), .k (.n .i64)], .nrows [.n .u64, .n .u64, .n .u64, .n .u64, .n .u64, .n .u64, .n .u64, .n .u64, .n .u64, .n .u64, .n .u64, .n .u64, .n .u64, .n .u64, .n .u64, .n .u64, .n .i64, .n .i64, .n .i64, .n .i64, .n .i64, .n .i64, .n .i64, .n .i64, .n .i64] 16 [.n .i64, .n .u64] 4 false true, .no]⟩
noncomputable def xsh_NvmApart_9_0 : FSh := ⟨[.any, .any, .any, .any, .any, .any, .any, .any, .any, .any, .any, .any, .any, .any, .any, .any, .any, .any, .any, .any, .any, .any, .any, .any, .any, .any, .any, .any, .any, .any, .any, .any, .any, .any, .any, .any, .any, .any, .any, .any, .any, .any, .any, .any, .any, .any, .any, .any, .any, .any, .any, .any, .any, .any, .any, .any, .any, .any, .any, .any, .any, .any, .any, .any, .any, .any, .any, .any, .any, .any, .any, .any, .any, .any, .any, .any, .any, .any, .any, .any, .any, .any, .any, .any, .any, .any, .any, .any, .any, .any, .any, .any, .any, .any, .any, .any, .any, .any, .any, .any, .any, .any, .any, .any, .any], [.no, .no]⟩
noncomputable def xsh_NvmApart_9_1 : FSh := ⟨[.any, .any, .any, .any, .v false [.k .b], .any, .any, .any, .any, .any, .any, .any, .any, .any, .any, .any, .any, .any, .any, .any, .any, .any, .any, .any, .any, .any, .any, .any, .any, .any, .any, .any, .any, .any, .any, .any, .any, .any, .any, .any, .any, .any, .any, .any, .any, .any, .any, .any, .any, .any, .any, .any, .any, .any, .any, .any, .any, .any, .any, .any, .any, .any, .any, .any, .any, .any, .any, .any, .any, .any, .any, .any, .any, .any, .any, .any, .any, .any, .any, .any, .any, .any, .any, .any, .any, .any, .any, .any, .any, .any, .any, .any, .any, .any, .any, .any, .any, .any, .any, .any, .any, .any, .any, .any, .any], [.no, .no]⟩
noncomputable def xs_NvmApart_9 : Exs := fun e => match e with
  | .normal => some lsh_NvmApart_9
  | .exit n => (match Nat.beq n 0 with | true => some xsh_NvmApart_9_0 | false => none)
  | .ret => some xsh_NvmApart_9_1
noncomputable def NvmApart_9_c0 (x0 : Nat) (x2 : Int) (x3 : Int) (g4 : Nat → Nat → Int) (x5 : Bool) (x6 : Bool) (x7 : Int) (x8 : Int) (n9 : Nat) (g9 : Nat → Nat → Int) (h9 : Nat → Nat → Int) : Bool := Go.Proofs.Ythgagehgiooklaa.G.Mem.ldW (Go.Proofs.Ythgagehgiooklaa.G.Mem.stM { n := n9, g := g9, h := h9, off := x5, burns := x6, left := x7, steps := x8 } (8 : Int) (Go.Proofs.Ythgagehgiooklaa.G.r_kind_0 (g4 (x0 + Int.toNat x3) (3 : Nat)) (8 : Int)) (g4 (x0 + Int.toNat x3) (4 : Nat))) (7 : Int) (3 : Nat) == x2 && (Go.Proofs.Ythgagehgiooklaa.G.Mem.ldW (Go.Proofs.Ythgagehgiooklaa.G.Mem.stM { n := n9, g := g9, h := h9, off := x5, burns := x6, left := x7, steps := x8 } (8 : Int) (Go.Proofs.Ythgagehgiooklaa.G.r_kind_0 (g4 (x0 + Int.toNat x3) (3 : Nat)) (8 : Int)) (g4 (x0 + Int.toNat x3) (4 : Nat))) (7 : Int) (4 : Nat) == (0 : Int) && (Go.Proofs.Ythgagehgiooklaa.G.Mem.ldW (Go.Proofs.Ythgagehgiooklaa.G.Mem.stM { n := n9, g := g9, h := h9, off := x5, burns := x6, left := x7, steps := x8 } (8 : Int) (Go.Proofs.Ythgagehgiooklaa.G.r_kind_0 (g4 (x0 + Int.toNat x3) (3 : Nat)) (8 : Int)) (g4 (x0 + Int.toNat x3) (4 : Nat))) (7 : Int) (5 : Nat) == (0 : Int) && (Go.Proofs.Ythgagehgiooklaa.G.Mem.ldW (Go.Proofs.Ythgagehgiooklaa.G.Mem.stM { n := n9, g := g9, h := h9, off := x5, burns := x6, left := x7, steps := x8 } (8 : Int) (Go.Proofs.Ythgagehgiooklaa.G.r_kind_0 (g4 (x0 + Int.toNat x3) (3 : Nat)) (8 : Int)) (g4 (x0 + Int.toNat x3) (4 : Nat))) (7 : Int) (6 : Nat) == (0 : Int) && (Go.Proofs.Ythgagehgiooklaa.G.Mem.ldW (Go.Proofs.Ythgagehgiooklaa.G.Mem.stM { n := n9, g := g9, h := h9, off := x5, burns := x6, left := x7, steps := x8 } (8 : Int) (Go.Proofs.Ythgagehgiooklaa.G.r_kind_0 (g4 (x0 + Int.toNat x3) (3 : Nat)) (8 : Int)) (g4 (x0 + Int.toNat x3) (4 : Nat))) (7 : Int) (7 : Nat) == (0 : Int) && Bool.true))))
noncomputable def NvmApart_9_c1 (x0 : Nat) (x2 : Int) (x3 : Int) (g4 : Nat → Nat → Int) (x5 : Bool) (x6 : Bool) (x7 : Int) (x8 : Int) (n9 : Nat) (g9 : Nat → Nat → Int) (h9 : Nat → Nat → Int) : Bool := Go.Proofs.Ythgagehgiooklaa.G.Mem.ldW (Go.Proofs.Ythgagehgiooklaa.G.Mem.stM { n := n9, g := g9, h := h9, off := x5, burns := x6, left := x7, steps := x8 } (8 : Int) (Go.Proofs.Ythgagehgiooklaa.G.r_kind_0 (g4 (x0 + Int.toNat x3) (3 : Nat)) (8 : Int)) (g4 (x0 + Int.toNat x3) (4 : Nat))) (7 : Int) (2 : Nat) == (0 : Int) && (NvmApart_9_c0 x0 x2 x3 g4 x5 x6 x7 x8 n9 g9 h9)
noncomputable def NvmApart_9_c2 (x0 : Nat) (x2 : Int) (x3 : Int) (g4 : Nat → Nat → Int) (x5 : Bool) (x6 : Bool) (x7 : Int) (x8 : Int) (n9 : Nat) (g9 : Nat → Nat → Int) (h9 : Nat → Nat → Int) : Bool := Go.Proofs.Ythgagehgiooklaa.G.Mem.ldW (Go.Proofs.Ythgagehgiooklaa.G.Mem.stM { n := n9, g := g9, h := h9, off := x5, burns := x6, left := x7, steps := x8 } (8 : Int) (Go.Proofs.Ythgagehgiooklaa.G.r_kind_0 (g4 (x0 + Int.toNat x3) (3 : Nat)) (8 : Int)) (g4 (x0 + Int.toNat x3) (4 : Nat))) (7 : Int) (1 : Nat) == (0 : Int) && (NvmApart_9_c1 x0 x2 x3 g4 x5 x6 x7 x8 n9 g9 h9)
noncomputable def NvmApart_9_c3 (x0 : Nat) (x2 : Int) (x3 : Int) (g4 : Nat → Nat → Int) (x5 : Bool) (x6 : Bool) (x7 : Int) (x8 : Int) (n9 : Nat) (g9 : Nat → Nat → Int) (h9 : Nat → Nat → Int) : Bool := Go.Proofs.Ythgagehgiooklaa.G.Mem.ldW (Go.Proofs.Ythgagehgiooklaa.G.Mem.stM { n := n9, g := g9, h := h9, off := x5, burns := x6, left := x7, steps := x8 } (8 : Int) (Go.Proofs.Ythgagehgiooklaa.G.r_kind_0 (g4 (x0 + Int.toNat x3) (3 : Nat)) (8 : Int)) (g4 (x0 + Int.toNat x3) (4 : Nat))) (7 : Int) (0 : Nat) == (0 : Int) && (NvmApart_9_c2 x0 x2 x3 g4 x5 x6 x7 x8 n9 g9 h9)
noncomputable def NvmApart_9_c4 (x0 : Nat) (x2 : Int) (x3 : Int) (g4 : Nat → Nat → Int) (x5 : Bool) (x6 : Bool) (x7 : Int) (x8 : Int) (n9 : Nat) (g9 : Nat → Nat → Int) (h9 : Nat → Nat → Int) : Bool := !(NvmApart_9_c3 x0 x2 x3 g4 x5 x6 x7 x8 n9 g9 h9)
noncomputable def NvmApart_9_c5 (x0 : Nat) (x2 : Int) (x3 : Int) (g4 : Nat → Nat → Int) (x5 : Bool) (x6 : Bool) (x7 : Int) (x8 : Int) (n9 : Nat) (g9 : Nat → Nat → Int) (h9 : Nat → Nat → Int) : Bool := Go.Proofs.Ythgagehgiooklaa.G.Mem.ldW (Go.Proofs.Ythgagehgiooklaa.G.Mem.flM { n := n9, g := g9, h := h9, off := x5, burns := x6, left := x7, steps := x8 } (Go.Proofs.Ythgagehgiooklaa.G.r_kind_0 (g4 (x0 + Int.toNat x3) (1 : Nat)) (8 : Int)) (8 : Int)) (7 : Int) (2 : Nat) == (0 : Int) && (Go.Proofs.Ythgagehgiooklaa.G.Mem.ldW (Go.Proofs.Ythgagehgiooklaa.G.Mem.flM { n := n9, g := g9, h := h9, off := x5, burns := x6, left := x7, steps := x8 } (Go.Proofs.Ythgagehgiooklaa.G.r_kind_0 (g4 (x0 + Int.toNat x3) (1 : Nat)) (8 : Int)) (8 : Int)) (7 : Int) (3 : Nat) == x2 && (Go.Proofs.Ythgagehgiooklaa.G.Mem.ldW (Go.Proofs.Ythgagehgiooklaa.G.Mem.flM { n := n9, g := g9, h := h9, off := x5, burns := x6, left := x7, steps := x8 } (Go.Proofs.Ythgagehgiooklaa.G.r_kind_0 (g4 (x0 + Int.toNat x3) (1 : Nat)) (8 : Int)) (8 : Int)) (7 : Int) (4 : Nat) == (0 : Int) && (Go.Proofs.Ythgagehgiooklaa.G.Mem.ldW (Go.Proofs.Ythgagehgiooklaa.G.Mem.flM { n := n9, g := g9, h := h9, off := x5, burns := x6, left := x7, steps := x8 } (Go.Proofs.Ythgagehgiooklaa.G.r_kind_0 (g4 (x0 + Int.toNat x3) (1 : Nat)) (8 : Int)) (8 : Int)) (7 : Int) (5 : Nat) == (0 : Int) && (Go.Proofs.Ythgagehgiooklaa.G.Mem.ldW (Go.Proofs.Ythgagehgiooklaa.G.Mem.flM { n := n9, g := g9, h := h9, off := x5, burns := x6, left := x7, steps := x8 } (Go.Proofs.Ythgagehgiooklaa.G.r_kind_0 (g4 (x0 + Int.toNat x3) (1 : Nat)) (8 : Int)) (8 : Int)) (7 : Int) (6 : Nat) == (0 : Int) && (Go.Proofs.Ythgagehgiooklaa.G.Mem.ldW (Go.Proofs.Ythgagehgiooklaa.G.Mem.flM { n := n9, g := g9, h := h9, off := x5, burns := x6, left := x7, steps := x8 } (Go.Proofs.Ythgagehgiooklaa.G.r_kind_0 (g4 (x0 + Int.toNat x3) (1 : Nat)) (8 : Int)) (8 : Int)) (7 : Int) (7 : Nat) == (0 : Int) && Bool.true)))))
noncomputable def NvmApart_9_c6 (x0 : Nat) (x2 : Int) (x3 : Int) (g4 : Nat → Nat → Int) (x5 : Bool) (x6 : Bool) (x7 : Int) (x8 : Int) (n9 : Nat) (g9 : Nat → Nat → Int) (h9 : Nat → Nat → Int) : Bool := Go.Proofs.Ythgagehgiooklaa.G.Mem.ldW (Go.Proofs.Ythgagehgiooklaa.G.Mem.flM { n := n9, g := g9, h := h9, off := x5, burns := x6, left := x7, steps := x8 } (Go.Proofs.Ythgagehgiooklaa.G.r_kind_0 (g4 (x0 + Int.toNat x3) (1 : Nat)) (8 : Int)) (8 : Int)) (7 : Int) (1 : Nat) == (0 : Int) && (NvmApart_9_c5 x0 x2 x3 g4 x5 x6 x7 x8 n9 g9 h9)
noncomputable def NvmApart_9_c7 (x0 : Nat) (x2 : Int) (x3 : Int) (g4 : Nat → Nat → Int) (x5 : Bool) (x6 : Bool) (x7 : Int) (x8 : Int) (n9 : Nat) (g9 : Nat → Nat → Int) (h9 : Nat → Nat → Int) : Bool := Go.Proofs.Ythgagehgiooklaa.G.Mem.ldW (Go.Proofs.Ythgagehgiooklaa.G.Mem.flM { n := n9, g := g9, h := h9, off := x5, burns := x6, left := x7, steps := x8 } (Go.Proofs.Ythgagehgiooklaa.G.r_kind_0 (g4 (x0 + Int.toNat x3) (1 : Nat)) (8 : Int)) (8 : Int)) (7 : Int) (0 : Nat) == (0 : Int) && (NvmApart_9_c6 x0 x2 x3 g4 x5 x6 x7 x8 n9 g9 h9)
noncomputable def NvmApart_9_c8 (x0 : Nat) (x2 : Int) (x3 : Int) (g4 : Nat → Nat → Int) (x5 : Bool) (x6 : Bool) (x7 : Int) (x8 : Int) (n9 : Nat) (g9 : Nat → Nat → Int) (h9 : Nat → Nat → Int) : Bool := !(NvmApart_9_c7 x0 x2 x3 g4 x5 x6 x7 x8 n9 g9 h9)
noncomputable def NvmApart_9_c9 (x0 : Nat) (x2 : Int) (x3 : Int) (g4 : Nat → Nat → Int) (x5 : Bool) (x6 : Bool) (x7 : Int) (x8 : Int) (n9 : Nat) (g9 : Nat → Nat → Int) (h9 : Nat → Nat → Int) : Bool := Go.Proofs.Ythgagehgiooklaa.G.Mem.ldW (Go.Proofs.Ythgagehgiooklaa.G.Mem.feM { n := n9, g := g9, h := h9, off := x5, burns := x6, left := x7, steps := x8 } (Go.Proofs.Ythgagehgiooklaa.G.r_kind_0 (g4 (x0 + Int.toNat x3) (1 : Nat)) (8 : Int))) (7 : Int) (2 : Nat) == (0 : Int) && (Go.Proofs.Ythgagehgiooklaa.G.Mem.ldW (Go.Proofs.Ythgagehgiooklaa.G.Mem.feM { n := n9, g := g9, h := h9, off := x5, burns := x6, left := x7, steps := x8 } (Go.Proofs.Ythgagehgiooklaa.G.r_kind_0 (g4 (x0 + Int.toNat x3) (1 : Nat)) (8 : Int))) (7 : Int) (3 : Nat) == x2 && (Go.Proofs.Ythgagehgiooklaa.G.Mem.ldW (Go.Proofs.Ythgagehgiooklaa.G.Mem.feM { n := n9, g := g9, h := h9, off := x5, burns := x6, left := x7, steps := x8 } (Go.Proofs.Ythgagehgiooklaa.G.r_kind_0 (g4 (x0 + Int.toNat x3) (1 : Nat)) (8 : Int))) (7 : Int) (4 : Nat) == (0 : Int) && (Go.Proofs.Ythgagehgiooklaa.G.Mem.ldW (Go.Proofs.Ythgagehgiooklaa.G.Mem.feM { n := n9, g := g9, h := h9, off := x5, burns := x6, left := x7, steps := x8 } (Go.Proofs.Ythgagehgiooklaa.G.r_kind_0 (g4 (x0 + Int.toNat x3) (1 : Nat)) (8 : Int))) (7 : Int) (5 : Nat) == (0 : Int) && (Go.Proofs.Ythgagehgiooklaa.G.Mem.ldW (Go.Proofs.Ythgagehgiooklaa.G.Mem.feM { n := n9, g := g9, h := h9, off := x5, burns := x6, left := x7, steps := x8 } (Go.Proofs.Ythgagehgiooklaa.G.r_kind_0 (g4 (x0 + Int.toNat x3) (1 : Nat)) (8 : Int))) (7 : Int) (6 : Nat) == (0 : Int) && (Go.Proofs.Ythgagehgiooklaa.G.Mem.ldW (Go.Proofs.Ythgagehgiooklaa.G.Mem.feM { n := n9, g := g9, h := h9, off := x5, burns := x6, left := x7, steps := x8 } (Go.Proofs.Ythgagehgiooklaa.G.r_kind_0 (g4 (x0 + Int.toNat x3) (1 : Nat)) (8 : Int))) (7 : Int) (7 : Nat) == (0 : Int) && Bool.true)))))
noncomputable def NvmApart_9_c10 (x0 : Nat) (x2 : Int) (x3 : Int) (g4 : Nat → Nat → Int) (x5 : Bool) (x6 : Bool) (x7 : Int) (x8 : Int) (n9 : Nat) (g9 : Nat → Nat → Int) (h9 : Nat → Nat → Int) : Bool := Go.Proofs.Ythgagehgiooklaa.G.Mem.ldW (Go.Proofs.Ythgagehgiooklaa.G.Mem.feM { n := n9, g := g9, h := h9, off := x5, burns := x6, left := x7, steps := x8 } (Go.Proofs.Ythgagehgiooklaa.G.r_kind_0 (g4 (x0 + Int.toNat x3) (1 : Nat)) (8 : Int))) (7 : Int) (1 : Nat) == (0 : Int) && (NvmApart_9_c9 x0 x2 x3 g4 x5 x6 x7 x8 n9 g9 h9)
noncomputable def NvmApart_9_c11 (x0 : Nat) (x2 : Int) (x3 : Int) (g4 : Nat → Nat → Int) (x5 : Bool) (x6 : Bool) (x7 : Int) (x8 : Int) (n9 : Nat) (g9 : Nat → Nat → Int) (h9 : Nat → Nat → Int) : Bool := Go.Proofs.Ythgagehgiooklaa.G.Mem.ldW (Go.Proofs.Ythgagehgiooklaa.G.Mem.feM { n := n9, g := g9, h := h9, off := x5, burns := x6, left := x7, steps := x8 } (Go.Proofs.Ythgagehgiooklaa.G.r_kind_0 (g4 (x0 + Int.toNat x3) (1 : Nat)) (8 : Int))) (7 : Int) (0 : Nat) == (0 : Int) && (NvmApart_9_c10 x0 x2 x3 g4 x5 x6 x7 x8 n9 g9 h9)
noncomputable def NvmApart_9_c12 (x0 : Nat) (x2 : Int) (x3 : Int) (g4 : Nat → Nat → Int) (x5 : Bool) (x6 : Bool) (x7 : Int) (x8 : Int) (n9 : Nat) (g9 : Nat → Nat → Int) (h9 : Nat → Nat → Int) : Bool := !(NvmApart_9_c11 x0 x2 x3 g4 x5 x6 x7 x8 n9 g9 h9)
noncomputable def NvmApart_9_c13 (x0 : Nat) (x2 : Int) (x3 : Int) (g4 : Nat → Nat → Int) (x5 : Bool) (x6 : Bool) (x7 : Int) (x8 : Int) (n9 : Nat) (g9 : Nat → Nat → Int) (h9 : Nat → Nat → Int) : Bool := Go.Proofs.Ythgagehgiooklaa.G.Mem.ldW (Go.Proofs.Ythgagehgiooklaa.G.Mem.evM { n := n9, g := g9, h := h9, off := x5, burns := x6, left := x7, steps := x8 } (8 : Int) (Go.Proofs.Ythgagehgiooklaa.G.r_kind_0 (g4 (x0 + Int.toNat x3) (3 : Nat)) (9 : Int))) (7 : Int) (2 : Nat) == (0 : Int) && (Go.Proofs.Ythgagehgiooklaa.G.Mem.ldW (Go.Proofs.Ythgagehgiooklaa.G.Mem.evM { n := n9, g := g9, h := h9, off := x5, burns := x6, left := x7, steps := x8 } (8 : Int) (Go.Proofs.Ythgagehgiooklaa.G.r_kind_0 (g4 (x0 + Int.toNat x3) (3 : Nat)) (9 : Int))) (7 : Int) (3 : Nat) == x2 && (Go.Proofs.Ythgagehgiooklaa.G.Mem.ldW (Go.Proofs.Ythgagehgiooklaa.G.Mem.evM { n := n9, g := g9, h := h9, off := x5, burns := x6, left := x7, steps := x8 } (8 : Int) (Go.Proofs.Ythgagehgiooklaa.G.r_kind_0 (g4 (x0 + Int.toNat x3) (3 : Nat)) (9 : Int))) (7 : Int) (4 : Nat) == (0 : Int) && (Go.Proofs.Ythgagehgiooklaa.G.Mem.ldW (Go.Proofs.Ythgagehgiooklaa.G.Mem.evM { n := n9, g := g9, h := h9, off := x5, burns := x6, left := x7, steps := x8 } (8 : Int) (Go.Proofs.Ythgagehgiooklaa.G.r_kind_0 (g4 (x0 + Int.toNat x3) (3 : Nat)) (9 : Int))) (7 : Int) (5 : Nat) == (0 : Int) && (Go.Proofs.Ythgagehgiooklaa.G.Mem.ldW (Go.Proofs.Ythgagehgiooklaa.G.Mem.evM { n := n9, g := g9, h := h9, off := x5, burns := x6, left := x7, steps := x8 } (8 : Int) (Go.Proofs.Ythgagehgiooklaa.G.r_kind_0 (g4 (x0 + Int.toNat x3) (3 : Nat)) (9 : Int))) (7 : Int) (6 : Nat) == (0 : Int) && (Go.Proofs.Ythgagehgiooklaa.G.Mem.ldW (Go.Proofs.Ythgagehgiooklaa.G.Mem.evM { n := n9, g := g9, h := h9, off := x5, burns := x6, left := x7, steps := x8 } (8 : Int) (Go.Proofs.Ythgagehgiooklaa.G.r_kind_0 (g4 (x0 + Int.toNat x3) (3 : Nat)) (9 : Int))) (7 : Int) (7 : Nat) == (0 : Int) && Bool.true)))))
noncomputable def NvmApart_9_c14 (x0 : Nat) (x2 : Int) (x3 : Int) (g4 : Nat → Nat → Int) (x5 : Bool) (x6 : Bool) (x7 : Int) (x8 : Int) (n9 : Nat) (g9 : Nat → Nat → Int) (h9 : Nat → Nat → Int) : Bool := Go.Proofs.Ythgagehgiooklaa.G.Mem.ldW (Go.Proofs.Ythgagehgiooklaa.G.Mem.evM { n := n9, g := g9, h := h9, off := x5, burns := x6, left := x7, steps := x8 } (8 : Int) (Go.Proofs.Ythgagehgiooklaa.G.r_kind_0 (g4 (x0 + Int.toNat x3) (3 : Nat)) (9 : Int))) (7 : Int) (1 : Nat) == (0 : Int) && (NvmApart_9_c13 x0 x2 x3 g4 x5 x6 x7 x8 n9 g9 h9)
noncomputable def NvmApart_9_c15 (x0 : Nat) (x2 : Int) (x3 : Int) (g4 : Nat → Nat → Int) (x5 : Bool) (x6 : Bool) (x7 : Int) (x8 : Int) (n9 : Nat) (g9 : Nat → Nat → Int) (h9 : Nat → Nat → Int) : Bool := Go.Proofs.Ythgagehgiooklaa.G.Mem.ldW (Go.Proofs.Ythgagehgiooklaa.G.Mem.evM { n := n9, g := g9, h := h9, off := x5, burns := x6, left := x7, steps := x8 } (8 : Int) (Go.Proofs.Ythgagehgiooklaa.G.r_kind_0 (g4 (x0 + Int.toNat x3) (3 : Nat)) (9 : Int))) (7 : Int) (0 : Nat) == (0 : Int) && (NvmApart_9_c14 x0 x2 x3 g4 x5 x6 x7 x8 n9 g9 h9)
noncomputable def NvmApart_9_c16 (x0 : Nat) (x2 : Int) (x3 : Int) (g4 : Nat → Nat → Int) (x5 : Bool) (x6 : Bool) (x7 : Int) (x8 : Int) (n9 : Nat) (g9 : Nat → Nat → Int) (h9 : Nat → Nat → Int) : Bool := !(NvmApart_9_c15 x0 x2 x3 g4 x5 x6 x7 x8 n9 g9 h9)
noncomputable def NvmApart_9_c17 (x0 : Nat) (x3 : Int) (g4 : Nat → Nat → Int) (h4 : Nat → Nat → Int) (x5 : Bool) (x6 : Bool) (x7 : Int) (x8 : Int) (n9 : Nat) (g9 : Nat → Nat → Int) (h9 : Nat → Nat → Int) : Bool := Go.Proofs.Ythgagehgiooklaa.G.Mem.ldW (Go.Proofs.Ythgagehgiooklaa.G.Mem.crM { n := n9, g := g9, h := h9, off := x5, burns := x6, left := x7, steps := x8 } (fun (j : Nat) => h4 (x0 + Int.toNat x3) (((0 : Nat) + j) * (1 : Nat) + (0 : Nat))) (Int.toNat (g4 (x0 + Int.toNat x3) (5 : Nat)))) (7 : Int) (4 : Nat) == (0 : Int) && (Go.Proofs.Ythgagehgiooklaa.G.Mem.ldW (Go.Proofs.Ythgagehgiooklaa.G.Mem.crM { n := n9, g := g9, h := h9, off := x5, burns := x6, left := x7, steps := x8 } (fun (j : Nat) => h4 (x0 + Int.toNat x3) (((0 : Nat) + j) * (1 : Nat) + (0 : Nat))) (Int.toNat (g4 (x0 + Int.toNat x3) (5 : Nat)))) (7 : Int) (5 : Nat) == (0 : Int) && (Go.Proofs.Ythgagehgiooklaa.G.Mem.ldW (Go.Proofs.Ythgagehgiooklaa.G.Mem.crM { n := n9, g := g9, h := h9, off := x5, burns := x6, left := x7, steps := x8 } (fun (j : Nat) => h4 (x0 + Int.toNat x3) (((0 : Nat) + j) * (1 : Nat) + (0 : Nat))) (Int.toNat (g4 (x0 + Int.toNat x3) (5 : Nat)))) (7 : Int) (6 : Nat) == (0 : Int) && (Go.Proofs.Ythgagehgiooklaa.G.Mem.ldW (Go.Proofs.Ythgagehgiooklaa.G.Mem.crM { n := n9, g := g9, h := h9, off := x5, burns := x6, left := x7, steps := x8 } (fun (j : Nat) => h4 (x0 + Int.toNat x3) (((0 : Nat) + j) * (1 : Nat) + (0 : Nat))) (Int.toNat (g4 (x0 + Int.toNat x3) (5 : Nat)))) (7 : Int) (7 : Nat) == (0 : Int) && Bool.true)))
noncomputable def NvmApart_9_c18 (x0 : Nat) (x2 : Int) (x3 : Int) (g4 : Nat → Nat → Int) (h4 : Nat → Nat → Int) (x5 : Bool) (x6 : Bool) (x7 : Int) (x8 : Int) (n9 : Nat) (g9 : Nat → Nat → Int) (h9 : Nat → Nat → Int) : Bool := Go.Proofs.Ythgagehgiooklaa.G.Mem.ldW (Go.Proofs.Ythgagehgiooklaa.G.Mem.crM { n := n9, g := g9, h := h9, off := x5, burns := x6, left := x7, steps := x8 } (fun (j : Nat) => h4 (x0 + Int.toNat x3) (((0 : Nat) + j) * (1 : Nat) + (0 : Nat))) (Int.toNat (g4 (x0 + Int.toNat x3) (5 : Nat)))) (7 : Int) (3 : Nat) == x2 && (NvmApart_9_c17 x0 x3 g4 h4 x5 x6 x7 x8 n9 g9 h9)
noncomputable def NvmApart_9_c19 (x0 : Nat) (x2 : Int) (x3 : Int) (g4 : Nat → Nat → Int) (h4 : Nat → Nat → Int) (x5 : Bool) (x6 : Bool) (x7 : Int) (x8 : Int) (n9 : Nat) (g9 : Nat → Nat → Int) (h9 : Nat → Nat → Int) : Bool := Go.Proofs.Ythgagehgiooklaa.G.Mem.ldW (Go.Proofs.Ythgagehgiooklaa.G.Mem.crM { n := n9, g := g9, h := h9, off := x5, burns := x6, left := x7, steps := x8 } (fun (j : Nat) => h4 (x0 + Int.toNat x3) (((0 : Nat) + j) * (1 : Nat) + (0 : Nat))) (Int.toNat (g4 (x0 + Int.toNat x3) (5 : Nat)))) (7 : Int) (2 : Nat) == (0 : Int) && (NvmApart_9_c18 x0 x2 x3 g4 h4 x5 x6 x7 x8 n9 g9 h9)
noncomputable def NvmApart_9_c20 (x0 : Nat) (x2 : Int) (x3 : Int) (g4 : Nat → Nat → Int) (h4 : Nat → Nat → Int) (x5 : Bool) (x6 : Bool) (x7 : Int) (x8 : Int) (n9 : Nat) (g9 : Nat → Nat → Int) (h9 : Nat → Nat → Int) : Bool := Go.Proofs.Ythgagehgiooklaa.G.Mem.ldW (Go.Proofs.Ythgagehgiooklaa.G.Mem.crM { n := n9, g := g9, h := h9, off := x5, burns := x6, left := x7, steps := x8 } (fun (j : Nat) => h4 (x0 + Int.toNat x3) (((0 : Nat) + j) * (1 : Nat) + (0 : Nat))) (Int.toNat (g4 (x0 + Int.toNat x3) (5 : Nat)))) (7 : Int) (1 : Nat) == (0 : Int) && (NvmApart_9_c19 x0 x2 x3 g4 h4 x5 x6 x7 x8 n9 g9 h9)
noncomputable def NvmApart_9_c21 (x0 : Nat) (x2 : Int) (x3 : Int) (g4 : Nat → Nat → Int) (h4 : Nat → Nat → Int) (x5 : Bool) (x6 : Bool) (x7 : Int) (x8 : Int) (n9 : Nat) (g9 : Nat → Nat → Int) (h9 : Nat → Nat → Int) : Bool := Go.Proofs.Ythgagehgiooklaa.G.Mem.ldW (Go.Proofs.Ythgagehgiooklaa.G.Mem.crM { n := n9, g := g9, h := h9, off := x5, burns := x6, left := x7, steps := x8 } (fun (j : Nat) => h4 (x0 + Int.toNat x3) (((0 : Nat) + j) * (1 : Nat) + (0 : Nat))) (Int.toNat (g4 (x0 + Int.toNat x3) (5 : Nat)))) (7 : Int) (0 : Nat) == (0 : Int) && (NvmApart_9_c20 x0 x2 x3 g4 h4 x5 x6 x7 x8 n9 g9 h9)
noncomputable def NvmApart_9_c22 (x0 : Nat) (x2 : Int) (x3 : Int) (g4 : Nat → Nat → Int) (h4 : Nat → Nat → Int) (x5 : Bool) (x6 : Bool) (x7 : Int) (x8 : Int) (n9 : Nat) (g9 : Nat → Nat → Int) (h9 : Nat → Nat → Int) : Bool := !(NvmApart_9_c21 x0 x2 x3 g4 h4 x5 x6 x7 x8 n9 g9 h9)
noncomputable def NvmApart_9_c23 (x0 : Nat) (x3 : Int) (g4 : Nat → Nat → Int) (x5 : Bool) (x6 : Bool) (x7 : Int) (x8 : Int) (n9 : Nat) (g9 : Nat → Nat → Int) (h9 : Nat → Nat → Int) : Bool := Go.Proofs.Ythgagehgiooklaa.G.Mem.ldW (Go.Proofs.Ythgagehgiooklaa.G.Mem.stM { n := n9, g := g9, h := h9, off := x5, burns := x6, left := x7, steps := x8 } (Go.Proofs.Ythgagehgiooklaa.G.r_kind_0 (g4 (x0 + Int.toNat x3) (2 : Nat)) (64 : Int)) (Go.Proofs.Ythgagehgiooklaa.G.r_kind_0 (g4 (x0 + Int.toNat x3) (3 : Nat)) (8 : Int)) (g4 (x0 + Int.toNat x3) (4 : Nat))) (7 : Int) (4 : Nat) == (0 : Int) && (Go.Proofs.Ythgagehgiooklaa.G.Mem.ldW (Go.Proofs.Ythgagehgiooklaa.G.Mem.stM { n := n9, g := g9, h := h9, off := x5, burns := x6, left := x7, steps := x8 } (Go.Proofs.Ythgagehgiooklaa.G.r_kind_0 (g4 (x0 + Int.toNat x3) (2 : Nat)) (64 : Int)) (Go.Proofs.Ythgagehgiooklaa.G.r_kind_0 (g4 (x0 + Int.toNat x3) (3 : Nat)) (8 : Int)) (g4 (x0 + Int.toNat x3) (4 : Nat))) (7 : Int) (5 : Nat) == (0 : Int) && (Go.Proofs.Ythgagehgiooklaa.G.Mem.ldW (Go.Proofs.Ythgagehgiooklaa.G.Mem.stM { n := n9, g := g9, h := h9, off := x5, burns := x6, left := x7, steps := x8 } (Go.Proofs.Ythgagehgiooklaa.G.r_kind_0 (g4 (x0 + Int.toNat x3) (2 : Nat)) (64 : Int)) (Go.Proofs.Ythgagehgiooklaa.G.r_kind_0 (g4 (x0 + Int.toNat x3) (3 : Nat)) (8 : Int)) (g4 (x0 + Int.toNat x3) (4 : Nat))) (7 : Int) (6 : Nat) == (0 : Int) && (Go.Proofs.Ythgagehgiooklaa.G.Mem.ldW (Go.Proofs.Ythgagehgiooklaa.G.Mem.stM { n := n9, g := g9, h := h9, off := x5, burns := x6, left := x7, steps := x8 } (Go.Proofs.Ythgagehgiooklaa.G.r_kind_0 (g4 (x0 + Int.toNat x3) (2 : Nat)) (64 : Int)) (Go.Proofs.Ythgagehgiooklaa.G.r_kind_0 (g4 (x0 + Int.toNat x3) (3 : Nat)) (8 : Int)) (g4 (x0 + Int.toNat x3) (4 : Nat))) (7 : Int) (7 : Nat) == (0 : Int) && Bool.true)))
noncomputable def NvmApart_9_c24 (x0 : Nat) (x2 : Int) (x3 : Int) (g4 : Nat → Nat → Int) (x5 : Bool) (x6 : Bool) (x7 : Int) (x8 : Int) (n9 : Nat) (g9 : Nat → Nat → Int) (h9 : Nat → Nat → Int) : Bool := Go.Proofs.Ythgagehgiooklaa.G.Mem.ldW (Go.Proofs.Ythgagehgiooklaa.G.Mem.stM { n := n9, g := g9, h := h9, off := x5, burns := x6, left := x7, steps := x8 } (Go.Proofs.Ythgagehgiooklaa.G.r_kind_0 (g4 (x0 + Int.toNat x3) (2 : Nat)) (64 : Int)) (Go.Proofs.Ythgagehgiooklaa.G.r_kind_0 (g4 (x0 + Int.toNat x3) (3 : Nat)) (8 : Int)) (g4 (x0 + Int.toNat x3) (4 : Nat))) (7 : Int) (3 : Nat) == x2 && (NvmApart_9_c23 x0 x3 g4 x5 x6 x7 x8 n9 g9 h9)
noncomputable def NvmApart_9_c25 (x0 : Nat) (x2 : Int) (x3 : Int) (g4 : Nat → Nat → Int) (x5 : Bool) (x6 : Bool) (x7 : Int) (x8 : Int) (n9 : Nat) (g9 : Nat → Nat → Int) (h9 : Nat → Nat → Int) : Bool := Go.Proofs.Ythgagehgiooklaa.G.Mem.ldW (Go.Proofs.Ythgagehgiooklaa.G.Mem.stM { n := n9, g := g9, h := h9, off := x5, burns := x6, left := x7, steps := x8 } (Go.Proofs.Ythgagehgiooklaa.G.r_kind_0 (g4 (x0 + Int.toNat x3) (2 : Nat)) (64 : Int)) (Go.Proofs.Ythgagehgiooklaa.G.r_kind_0 (g4 (x0 + Int.toNat x3) (3 : Nat)) (8 : Int)) (g4 (x0 + Int.toNat x3) (4 : Nat))) (7 : Int) (2 : Nat) == (0 : Int) && (NvmApart_9_c24 x0 x2 x3 g4 x5 x6 x7 x8 n9 g9 h9)
noncomputable def NvmApart_9_c26 (x0 : Nat) (x2 : Int) (x3 : Int) (g4 : Nat → Nat → Int) (x5 : Bool) (x6 : Bool) (x7 : Int) (x8 : Int) (n9 : Nat) (g9 : Nat → Nat → Int) (h9 : Nat → Nat → Int) : Bool := Go.Proofs.Ythgagehgiooklaa.G.Mem.ldW (Go.Proofs.Ythgagehgiooklaa.G.Mem.stM { n := n9, g := g9, h := h9, off := x5, burns := x6, left := x7, steps := x8 } (Go.Proofs.Ythgagehgiooklaa.G.r_kind_0 (g4 (x0 + Int.toNat x3) (2 : Nat)) (64 : Int)) (Go.Proofs.Ythgagehgiooklaa.G.r_kind_0 (g4 (x0 + Int.toNat x3) (3 : Nat)) (8 : Int)) (g4 (x0 + Int.toNat x3) (4 : Nat))) (7 : Int) (1 : Nat) == (0 : Int) && (NvmApart_9_c25 x0 x2 x3 g4 x5 x6 x7 x8 n9 g9 h9)
noncomputable def NvmApart_9_c27 (x0 : Nat) (x2 : Int) (x3 : Int) (g4 : Nat → Nat → Int) (x5 : Bool) (x6 : Bool) (x7 : Int) (x8 : Int) (n9 : Nat) (g9 : Nat → Nat → Int) (h9 : Nat → Nat → Int) : Bool := Go.Proofs.Ythgagehgiooklaa.G.Mem.ldW (Go.Proofs.Ythgagehgiooklaa.G.Mem.stM { n := n9, g := g9, h := h9, off := x5, burns := x6, left := x7, steps := x8 } (Go.Proofs.Ythgagehgiooklaa.G.r_kind_0 (g4 (x0 + Int.toNat x3) (2 : Nat)) (64 : Int)) (Go.Proofs.Ythgagehgiooklaa.G.r_kind_0 (g4 (x0 + Int.toNat x3) (3 : Nat)) (8 : Int)) (g4 (x0 + Int.toNat x3) (4 : Nat))) (7 : Int) (0 : Nat) == (0 : Int) && (NvmApart_9_c26 x0 x2 x3 g4 x5 x6 x7 x8 n9 g9 h9)
noncomputable def NvmApart_9_c28 (x0 : Nat) (x2 : Int) (x3 : Int) (g4 : Nat → Nat → Int) (x5 : Bool) (x6 : Bool) (x7 : Int) (x8 : Int) (n9 : Nat) (g9 : Nat → Nat → Int) (h9 : Nat → Nat → Int) : Bool := !(NvmApart_9_c27 x0 x2 x3 g4 x5 x6 x7 x8 n9 g9 h9)
noncomputable def NvmApart_9_c29 (x0 : Nat) (x3 : Int) (g4 : Nat → Nat → Int) (x5 : Bool) (x6 : Bool) (x7 : Int) (x8 : Int) (n9 : Nat) (g9 : Nat → Nat → Int) (h9 : Nat → Nat → Int) : Bool := Go.Proofs.Ythgagehgiooklaa.G.Mem.ldW (Go.Proofs.Ythgagehgiooklaa.G.Mem.flM { n := n9, g := g9, h := h9, off := x5, burns := x6, left := x7, steps := x8 } (Go.Proofs.Ythgagehgiooklaa.G.r_kind_0 (g4 (x0 + Int.toNat x3) (1 : Nat)) (8 : Int)) (Go.Proofs.Ythgagehgiooklaa.G.r_kind_0 (g4 (x0 + Int.toNat x3) (2 : Nat)) (64 : Int))) (7 : Int) (4 : Nat) == (0 : Int) && (Go.Proofs.Ythgagehgiooklaa.G.Mem.ldW (Go.Proofs.Ythgagehgiooklaa.G.Mem.flM { n := n9, g := g9, h := h9, off := x5, burns := x6, left := x7, steps := x8 } (Go.Proofs.Ythgagehgiooklaa.G.r_kind_0 (g4 (x0 + Int.toNat x3) (1 : Nat)) (8 : Int)) (Go.Proofs.Ythgagehgiooklaa.G.r_kind_0 (g4 (x0 + Int.toNat x3) (2 : Nat)) (64 : Int))) (7 : Int) (5 : Nat) == (0 : Int) && (Go.Proofs.Ythgagehgiooklaa.G.Mem.ldW (Go.Proofs.Ythgagehgiooklaa.G.Mem.flM { n := n9, g := g9, h := h9, off := x5, burns := x6, left := x7, steps := x8 } (Go.Proofs.Ythgagehgiooklaa.G.r_kind_0 (g4 (x0 + Int.toNat x3) (1 : Nat)) (8 : Int)) (Go.Proofs.Ythgagehgiooklaa.G.r_kind_0 (g4 (x0 + Int.toNat x3) (2 : Nat)) (64 : Int))) (7 : Int) (6 : Nat) == (0 : Int) && (Go.Proofs.Ythgagehgiooklaa.G.Mem.ldW (Go.Proofs.Ythgagehgiooklaa.G.Mem.flM { n := n9, g := g9, h := h9, off := x5, burns := x6, left := x7, steps := x8 } (Go.Proofs.Ythgagehgiooklaa.G.r_kind_0 (g4 (x0 + Int.toNat x3) (1 : Nat)) (8 : Int)) (Go.Proofs.Ythgagehgiooklaa.G.r_kind_0 (g4 (x0 + Int.toNat x3) (2 : Nat)) (64 : Int))) (7 : Int) (7 : Nat) == (0 : Int) && Bool.true)))
noncomputable def NvmApart_9_c30 (x0 : Nat) (x2 : Int) (x3 : Int) (g4 : Nat → Nat → Int) (x5 : Bool) (x6 : Bool) (x7 : Int) (x8 : Int) (n9 : Nat) (g9 : Nat → Nat → Int) (h9 : Nat → Nat → Int) : Bool := Go.Proofs.Ythgagehgiooklaa.G.Mem.ldW (Go.Proofs.Ythgagehgiooklaa.G.Mem.flM { n := n9, g := g9, h := h9, off := x5, burns := x6, left := x7, steps := x8 } (Go.Proofs.Ythgagehgiooklaa.G.r_kind_0 (g4 (x0 + Int.toNat x3) (1 : Nat)) (8 : Int)) (Go.Proofs.Ythgagehgiooklaa.G.r_kind_0 (g4 (x0 + Int.toNat x3) (2 : Nat)) (64 : Int))) (7 : Int) (3 : Nat) == x2 && (NvmApart_9_c29 x0 x3 g4 x5 x6 x7 x8 n9 g9 h9)
noncomputable def NvmApart_9_c31 (x0 : Nat) (x2 : Int) (x3 : Int) (g4 : Nat → Nat → Int) (x5 : Bool) (x6 : Bool) (x7 : Int) (x8 : Int) (n9 : Nat) (g9 : Nat → Nat → Int) (h9 : Nat → Nat → Int) : Bool := Go.Proofs.Ythgagehgiooklaa.G.Mem.ldW (Go.Proofs.Ythgagehgiooklaa.G.Mem.flM { n := n9, g := g9, h := h9, off := x5, burns := x6, left := x7, steps := x8 } (Go.Proofs.Ythgagehgiooklaa.G.r_kind_0 (g4 (x0 + Int.toNat x3) (1 : Nat)) (8 : Int)) (Go.Proofs.Ythgagehgiooklaa.G.r_kind_0 (g4 (x0 + Int.toNat x3) (2 : Nat)) (64 : Int))) (7 : Int) (2 : Nat) == (0 : Int) && (NvmApart_9_c30 x0 x2 x3 g4 x5 x6 x7 x8 n9 g9 h9)
noncomputable def NvmApart_9_c32 (x0 : Nat) (x2 : Int) (x3 : Int) (g4 : Nat → Nat → Int) (x5 : Bool) (x6 : Bool) (x7 : Int) (x8 : Int) (n9 : Nat) (g9 : Nat → Nat → Int) (h9 : Nat → Nat → Int) : Bool := Go.Proofs.Ythgagehgiooklaa.G.Mem.ldW (Go.Proofs.Ythgagehgiooklaa.G.Mem.flM { n := n9, g := g9, h := h9, off := x5, burns := x6, left := x7, steps := x8 } (Go.Proofs.Ythgagehgiooklaa.G.r_kind_0 (g4 (x0 + Int.toNat x3) (1 : Nat)) (8 : Int)) (Go.Proofs.Ythgagehgiooklaa.G.r_kind_0 (g4 (x0 + Int.toNat x3) (2 : Nat)) (64 : Int))) (7 : Int) (1 : Nat) == (0 : Int) && (NvmApart_9_c31 x0 x2 x3 g4 x5 x6 x7 x8 n9 g9 h9)
noncomputable def NvmApart_9_c33 (x0 : Nat) (x2 : Int) (x3 : Int) (g4 : Nat → Nat → Int) (x5 : Bool) (x6 : Bool) (x7 : Int) (x8 : Int) (n9 : Nat) (g9 : Nat → Nat → Int) (h9 : Nat → Nat → Int) : Bool := Go.Proofs.Ythgagehgiooklaa.G.Mem.ldW (Go.Proofs.Ythgagehgiooklaa.G.Mem.flM { n := n9, g := g9, h := h9, off := x5, burns := x6, left := x7, steps := x8 } (Go.Proofs.Ythgagehgiooklaa.G.r_kind_0 (g4 (x0 + Int.toNat x3) (1 : Nat)) (8 : Int)) (Go.Proofs.Ythgagehgiooklaa.G.r_kind_0 (g4 (x0 + Int.toNat x3) (2 : Nat)) (64 : Int))) (7 : Int) (0 : Nat) == (0 : Int) && (NvmApart_9_c32 x0 x2 x3 g4 x5 x6 x7 x8 n9 g9 h9)
noncomputable def NvmApart_9_c34 (x0 : Nat) (x2 : Int) (x3 : Int) (g4 : Nat → Nat → Int) (x5 : Bool) (x6 : Bool) (x7 : Int) (x8 : Int) (n9 : Nat) (g9 : Nat → Nat → Int) (h9 : Nat → Nat → Int) : Bool := !(NvmApart_9_c33 x0 x2 x3 g4 x5 x6 x7 x8 n9 g9 h9)
noncomputable def NvmApart_9_c35 (x0 : Nat) (x3 : Int) (g4 : Nat → Nat → Int) (x5 : Bool) (x6 : Bool) (x7 : Int) (x8 : Int) (n9 : Nat) (g9 : Nat → Nat → Int) (h9 : Nat → Nat → Int) : Bool := Go.Proofs.Ythgagehgiooklaa.G.Mem.ldW (Go.Proofs.Ythgagehgiooklaa.G.Mem.evM { n := n9, g := g9, h := h9, off := x5, burns := x6, left := x7, steps := x8 } (Go.Proofs.Ythgagehgiooklaa.G.r_kind_0 (g4 (x0 + Int.toNat x3) (2 : Nat)) (64 : Int)) (Go.Proofs.Ythgagehgiooklaa.G.r_kind_0 (g4 (x0 + Int.toNat x3) (3 : Nat)) (9 : Int))) (7 : Int) (4 : Nat) == (0 : Int) && (Go.Proofs.Ythgagehgiooklaa.G.Mem.ldW (Go.Proofs.Ythgagehgiooklaa.G.Mem.evM { n := n9, g := g9, h := h9, off := x5, burns := x6, left := x7, steps := x8 } (Go.Proofs.Ythgagehgiooklaa.G.r_kind_0 (g4 (x0 + Int.toNat x3) (2 : Nat)) (64 : Int)) (Go.Proofs.Ythgagehgiooklaa.G.r_kind_0 (g4 (x0 + Int.toNat x3) (3 : Nat)) (9 : Int))) (7 : Int) (5 : Nat) == (0 : Int) && (Go.Proofs.Ythgagehgiooklaa.G.Mem.ldW (Go.Proofs.Ythgagehgiooklaa.G.Mem.evM { n := n9, g := g9, h := h9, off := x5, burns := x6, left := x7, steps := x8 } (Go.Proofs.Ythgagehgiooklaa.G.r_kind_0 (g4 (x0 + Int.toNat x3) (2 : Nat)) (64 : Int)) (Go.Proofs.Ythgagehgiooklaa.G.r_kind_0 (g4 (x0 + Int.toNat x3) (3 : Nat)) (9 : Int))) (7 : Int) (6 : Nat) == (0 : Int) && (Go.Proofs.Ythgagehgiooklaa.G.Mem.ldW (Go.Proofs.Ythgagehgiooklaa.G.Mem.evM { n := n9, g := g9, h := h9, off := x5, burns := x6, left := x7, steps := x8 } (Go.Proofs.Ythgagehgiooklaa.G.r_kind_0 (g4 (x0 + Int.toNat x3) (2 : Nat)) (64 : Int)) (Go.Proofs.Ythgagehgiooklaa.G.r_kind_0 (g4 (x0 + Int.toNat x3) (3 : Nat)) (9 : Int))) (7 : Int) (7 : Nat) == (0 : Int) && Bool.true)))
noncomputable def NvmApart_9_c36 (x0 : Nat) (x2 : Int) (x3 : Int) (g4 : Nat → Nat → Int) (x5 : Bool) (x6 : Bool) (x7 : Int) (x8 : Int) (n9 : Nat) (g9 : Nat → Nat → Int) (h9 : Nat → Nat → Int) : Bool := Go.Proofs.Ythgagehgiooklaa.G.Mem.ldW (Go.Proofs.Ythgagehgiooklaa.G.Mem.evM { n := n9, g := g9, h := h9, off := x5, burns := x6, left := x7, steps := x8 } (Go.Proofs.Ythgagehgiooklaa.G.r_kind_0 (g4 (x0 + Int.toNat x3) (2 : Nat)) (64 : Int)) (Go.Proofs.Ythgagehgiooklaa.G.r_kind_0 (g4 (x0 + Int.toNat x3) (3 : Nat)) (9 : Int))) (7 : Int) (3 : Nat) == x2 && (NvmApart_9_c35 x0 x3 g4 x5 x6 x7 x8 n9 g9 h9)
noncomputable def NvmApart_9_c37 (x0 : Nat) (x2 : Int) (x3 : Int) (g4 : Nat → Nat → Int) (x5 : Bool) (x6 : Bool) (x7 : Int) (x8 : Int) (n9 : Nat) (g9 : Nat → Nat → Int) (h9 : Nat → Nat → Int) : Bool := Go.Proofs.Ythgagehgiooklaa.G.Mem.ldW (Go.Proofs.Ythgagehgiooklaa.G.Mem.evM { n := n9, g := g9, h := h9, off := x5, burns := x6, left := x7, steps := x8 } (Go.Proofs.Ythgagehgiooklaa.G.r_kind_0 (g4 (x0 + Int.toNat x3) (2 : Nat)) (64 : Int)) (Go.Proofs.Ythgagehgiooklaa.G.r_kind_0 (g4 (x0 + Int.toNat x3) (3 : Nat)) (9 : Int))) (7 : Int) (2 : Nat) == (0 : Int) && (NvmApart_9_c36 x0 x2 x3 g4 x5 x6 x7 x8 n9 g9 h9)
noncomputable def NvmApart_9_c38 (x0 : Nat) (x2 : Int) (x3 : Int) (g4 : Nat → Nat → Int) (x5 : Bool) (x6 : Bool) (x7 : Int) (x8 : Int) (n9 : Nat) (g9 : Nat → Nat → Int) (h9 : Nat → Nat → Int) : Bool := Go.Proofs.Ythgagehgiooklaa.G.Mem.ldW (Go.Proofs.Ythgagehgiooklaa.G.Mem.evM { n := n9, g := g9, h := h9, off := x5, burns := x6, left := x7, steps := x8 } (Go.Proofs.Ythgagehgiooklaa.G.r_kind_0 (g4 (x0 + Int.toNat x3) (2 : Nat)) (64 : Int)) (Go.Proofs.Ythgagehgiooklaa.G.r_kind_0 (g4 (x0 + Int.toNat x3) (3 : Nat)) (9 : Int))) (7 : Int) (1 : Nat) == (0 : Int) && (NvmApart_9_c37 x0 x2 x3 g4 x5 x6 x7 x8 n9 g9 h9)
noncomputable def NvmApart_9_c39 (x0 : Nat) (x2 : Int) (x3 : Int) (g4 : Nat → Nat → Int) (x5 : Bool) (x6 : Bool) (x7 : Int) (x8 : Int) (n9 : Nat) (g9 : Nat → Nat → Int) (h9 : Nat → Nat → Int) : Bool := Go.Proofs.Ythgagehgiooklaa.G.Mem.ldW (Go.Proofs.Ythgagehgiooklaa.G.Mem.evM { n := n9, g := g9, h := h9, off := x5, burns := x6, left := x7, steps := x8 } (Go.Proofs.Ythgagehgiooklaa.G.r_kind_0 (g4 (x0 + Int.toNat x3) (2 : Nat)) (64 : Int)) (Go.Proofs.Ythgagehgiooklaa.G.r_kind_0 (g4 (x0 + Int.toNat x3) (3 : Nat)) (9 : Int))) (7 : Int) (0 : Nat) == (0 : Int) && (NvmApart_9_c38 x0 x2 x3 g4 x5 x6 x7 x8 n9 g9 h9)
noncomputable def NvmApart_9_c40 (x0 : Nat) (x2 : Int) (x3 : Int) (g4 : Nat → Nat → Int) (x5 : Bool) (x6 : Bool) (x7 : Int) (x8 : Int) (n9 : Nat) (g9 : Nat → Nat → Int) (h9 : Nat → Nat → Int) : Bool := !(NvmApart_9_c39 x0 x2 x3 g4 x5 x6 x7 x8 n9 g9 h9)
noncomputable def B_NvmApart_9_s0 (x0 : Nat) (x1 : Nat) (x2 : Int) (x3 : Int) (n4 : Nat) (g4 : Nat → Nat → Int) (h4 : Nat → Nat → Int) (x5 : Bool) (x6 : Bool) (x7 : Int) (x8 : Int) (n9 : Nat) (g9 : Nat → Nat → Int) (h9 : Nat → Nat → Int) : Tr (Ex × List At) :=
 .br 86 (Go.Proofs.Ythgagehgiooklaa.G.r_kind_0 (g4 (x0 + Int.toNat x3) (0 : Nat)) (5 : Int) == (4 : Int))
 (.br 0 (Go.Proofs.Ythgagehgiooklaa.G.pdec (Go.Proofs.Ythgagehgiooklaa.G.Mem.Ok (900000 : Int) { n := n9, g := g9, h := h9, off := x5, burns := x6, left := x7, steps := x8 }))
 (.br 0 (Go.Proofs.Ythgagehgiooklaa.G.pdec (Go.Proofs.Ythgagehgiooklaa.G.KeepOk (fun (j : Nat) => h4 (x0 + Int.toNat x3) (((0 : Nat) + j) * (1 : Nat) + (0 : Nat))) (Int.toNat (g4 (x0 + Int.toNat x3) (5 : Nat)))))
 (.br 99 (Go.Proofs.Ythgagehgiooklaa.G.Mem.ldC (Go.Proofs.Ythgagehgiooklaa.G.Mem.crM { n := n9, g := g9, h := h9, off := x5, burns := x6, left := x7, steps := x8 } (fun (j : Nat) => h4 (x0 + Int.toNat x3) (((0 : Nat) + j) * (1 : Nat) + (0 : Nat))) (Int.toNat (g4 (x0 + Int.toNat x3) (5 : Nat)))) (7 : Int) != (0 : Int))
 (.ok (.ret, [(.b (Bool.false))]))
 (.br 104 ((NvmApart_9_c22 x0 x2 x3 g4 h4 x5 x6 x7 x8 n9 g9 h9))
 (.ok (.ret, [(.b (Bool.false))]))
 (.ok (.normal, [(.n (x0)), (.n (x1)), (.i (x2)), (.i (Go.IntKind.wrap Go.IntKind.i64 (x3 + (1 : Int)))), (.q (n4) (g4) ((5 : Nat)) ((1 : Nat)) (h4)), (.b ((Go.Proofs.Ythgagehgiooklaa.G.Mem.crM { n := n9, g := g9, h := h9, off := x5, burns := x6, left := x7, steps := x8 } (fun (j : Nat) => h4 (x0 + Int.toNat x3) (((0 : Nat) + j) * (1 : Nat) + (0 : Nat))) (Int.toNat (g4 (x0 + Int.toNat x3) (5 : Nat)))).off)), (.b ((Go.Proofs.Ythgagehgiooklaa.G.Mem.crM { n := n9, g := g9, h := h9, off := x5, burns := x6, left := x7, steps := x8 } (fun (j : Nat) => h4 (x0 + Int.toNat x3) (((0 : Nat) + j) * (1 : Nat) + (0 : Nat))) (Int.toNat (g4 (x0 + Int.toNat x3) (5 : Nat)))).burns)), (.i ((Go.Proofs.Ythgagehgiooklaa.G.Mem.crM { n := n9, g := g9, h := h9, off := x5, burns := x6, left := x7, steps := x8 } (fun (j : Nat) => h4 (x0 + Int.toNat x3) (((0 : Nat) + j) * (1 : Nat) + (0 : Nat))) (Int.toNat (g4 (x0 + Int.toNat x3) (5 : Nat)))).left)), (.i ((Go.Proofs.Ythgagehgiooklaa.G.Mem.crM { n := n9, g := g9, h := h9, off := x5, burns := x6, left := x7, steps := x8 } (fun (j : Nat) => h4 (x0 + Int.toNat x3) (((0 : Nat) + j) * (1 : Nat) + (0 : Nat))) (Int.toNat (g4 (x0 + Int.toNat x3) (5 : Nat)))).steps)), (.q ((Go.Proofs.Ythgagehgiooklaa.G.Mem.crM { n := n9, g := g9, h := h9, off := x5, burns := x6, left := x7, steps := x8 } (fun (j : Nat) => h4 (x0 + Int.toNat x3) (((0 : Nat) + j) * (1 : Nat) + (0 : Nat))) (Int.toNat (g4 (x0 + Int.toNat x3) (5 : Nat)))).n) ((Go.Proofs.Ythgagehgiooklaa.G.Mem.crM { n := n9, g := g9, h := h9, off := x5, burns := x6, left := x7, steps := x8 } (fun (j : Nat) => h4 (x0 + Int.toNat x3) (((0 : Nat) + j) * (1 : Nat) + (0 : Nat))) (Int.toNat (g4 (x0 + Int.toNat x3) (5 : Nat)))).g) ((16 : Nat)) ((2 : Nat)) ((Go.Proofs.Ythgagehgiooklaa.G.Mem.crM { n := n9, g := g9, h := h9, off := x5, burns := x6, left := x7, steps := x8 } (fun (j : Nat) => h4 (x0 + Int.toNat x3) (((0 : Nat) + j) * (1 : Nat) + (0 : Nat))) (Int.toNat (g4 (x0 + Int.toNat x3) (5 : Nat)))).h))]))))
 (.no))
 (.no))
 (.br 99 (Go.Proofs.Ythgagehgiooklaa.G.Mem.ldC { n := n9, g := g9, h := h9, off := x5, burns := x6, left := x7, steps := x8 } (7 : Int) != (0 : Int))
 (.ok (.ret, [(.b (Bool.false))]))
 (.br 104 (!(Go.Proofs.Ythgagehgiooklaa.G.Mem.ldW { n := n9, g := g9, h := h9, off := x5, burns := x6, left := x7, steps := x8 } (7 : Int) (0 : Nat) == (0 : Int) && (Go.Proofs.Ythgagehgiooklaa.G.Mem.ldW { n := n9, g := g9, h := h9, off := x5, burns := x6, left := x7, steps := x8 } (7 : Int) (1 : Nat) == (0 : Int) && (Go.Proofs.Ythgagehgiooklaa.G.Mem.ldW { n := n9, g := g9, h := h9, off := x5, burns := x6, left := x7, steps := x8 } (7 : Int) (2 : Nat) == (0 : Int) && (Go.Proofs.Ythgagehgiooklaa.G.Mem.ldW { n := n9, g := g9, h := h9, off := x5, burns := x6, left := x7, steps := x8 } (7 : Int) (3 : Nat) == x2 && (Go.Proofs.Ythgagehgiooklaa.G.Mem.ldW { n := n9, g := g9, h := h9, off := x5, burns := x6, left := x7, steps := x8 } (7 : Int) (4 : Nat) == (0 : Int) && (Go.Proofs.Ythgagehgiooklaa.G.Mem.ldW { n := n9, g := g9, h := h9, off := x5, burns := x6, left := x7, steps := x8 } (7 : Int) (5 : Nat) == (0 : Int) && (Go.Proofs.Ythgagehgiooklaa.G.Mem.ldW { n := n9, g := g9, h := h9, off := x5, burns := x6, left := x7, steps := x8 } (7 : Int) (6 : Nat) == (0 : Int) && (Go.Proofs.Ythgagehgiooklaa.G.Mem.ldW { n := n9, g := g9, h := h9, off := x5, burns := x6, left := x7, steps := x8 } (7 : Int) (7 : Nat) == (0 : Int) && Bool.true)))))))))
 (.ok (.ret, [(.b (Bool.false))]))
 (.ok (.normal, [(.n (x0)), (.n (x1)), (.i (x2)), (.i (Go.IntKind.wrap Go.IntKind.i64 (x3 + (1 : Int)))), (.q (n4) (g4) ((5 : Nat)) ((1 : Nat)) (h4)), (.b (x5)), (.b (x6)), (.i (x7)), (.i (x8)), (.q (n9) (g9) ((16 : Nat)) ((2 : Nat)) (h9))]))))
noncomputable def B_NvmApart_9 (x0 : Nat) (x1 : Nat) (x2 : Int) (x3 : Int) (n4 : Nat) (g4 : Nat → Nat → Int) (h4 : Nat → Nat → Int) (x5 : Bool) (x6 : Bool) (x7 : Int) (x8 : Int) (n9 : Nat) (g9 : Nat → Nat → Int) (h9 : Nat → Nat → Int) : Tr (Ex × List At) :=
 .br 35 (Decidable.decide (x3 < (↑x1 : Int)))
 (.br 38 (Decidable.decide (x3 < (80 : Int)))
 (.br 43 (Go.AM.within x3 x1)
 (.br 0 (Go.Proofs.Ythgagehgiooklaa.G.ok_kind (g4 (x0 + Int.toNat x3) (2 : Nat)) (64 : Int))
 (.br 49 (Go.Proofs.Ythgagehgiooklaa.G.r_kind_0 (g4 (x0 + Int.toNat x3) (2 : Nat)) (64 : Int) == (7 : Int))
 (.br 0 (Go.Proofs.Ythgagehgiooklaa.G.ok_kind (g4 (x0 + Int.toNat x3) (0 : Nat)) (5 : Int))
 (.br 53 (Go.Proofs.Ythgagehgiooklaa.G.r_kind_0 (g4 (x0 + Int.toNat x3) (0 : Nat)) (5 : Int) == (0 : Int))
 (.br 0 (Go.Proofs.Ythgagehgiooklaa.G.ok_kind (g4 (x0 + Int.toNat x3) (3 : Nat)) (8 : Int))
 (.br 0 (Go.Proofs.Ythgagehgiooklaa.G.pdec (Go.Proofs.Ythgagehgiooklaa.G.Mem.Ok (900000 : Int) { n := n9, g := g9, h := h9, off := x5, burns := x6, left := x7, steps := x8 }))
 (.br 99 (Go.Proofs.Ythgagehgiooklaa.G.Mem.ldC (Go.Proofs.Ythgagehgiooklaa.G.Mem.stM { n := n9, g := g9, h := h9, off := x5, burns := x6, left := x7, steps := x8 } (8 : Int) (Go.Proofs.Ythgagehgiooklaa.G.r_kind_0 (g4 (x0 + Int.toNat x3) (3 : Nat)) (8 : Int)) (g4 (x0 + Int.toNat x3) (4 : Nat))) (7 : Int) != (0 : Int))
 (.ok (.ret, [(.b (Bool.false))]))
 (.br 104 ((NvmApart_9_c4 x0 x2 x3 g4 x5 x6 x7 x8 n9 g9 h9))
 (.ok (.ret, [(.b (Bool.false))]))
 (.ok (.normal, [(.n (x0)), (.n (x1)), (.i (x2)), (.i (Go.IntKind.wrap Go.IntKind.i64 (x3 + (1 : Int)))), (.q (n4) (g4) ((5 : Nat)) ((1 : Nat)) (h4)), (.b ((Go.Proofs.Ythgagehgiooklaa.G.Mem.stM { n := n9, g := g9, h := h9, off := x5, burns := x6, left := x7, steps := x8 } (8 : Int) (Go.Proofs.Ythgagehgiooklaa.G.r_kind_0 (g4 (x0 + Int.toNat x3) (3 : Nat)) (8 : Int)) (g4 (x0 + Int.toNat x3) (4 : Nat))).off)), (.b ((Go.Proofs.Ythgagehgiooklaa.G.Mem.stM { n := n9, g := g9, h := h9, off := x5, burns := x6, left := x7, steps := x8 } (8 : Int) (Go.Proofs.Ythgagehgiooklaa.G.r_kind_0 (g4 (x0 + Int.toNat x3) (3 : Nat)) (8 : Int)) (g4 (x0 + Int.toNat x3) (4 : Nat))).burns)), (.i ((Go.Proofs.Ythgagehgiooklaa.G.Mem.stM { n := n9, g := g9, h := h9, off := x5, burns := x6, left := x7, steps := x8 } (8 : Int) (Go.Proofs.Ythgagehgiooklaa.G.r_kind_0 (g4 (x0 + Int.toNat x3) (3 : Nat)) (8 : Int)) (g4 (x0 + Int.toNat x3) (4 : Nat))).left)), (.i ((Go.Proofs.Ythgagehgiooklaa.G.Mem.stM { n := n9, g := g9, h := h9, off := x5, burns := x6, left := x7, steps := x8 } (8 : Int) (Go.Proofs.Ythgagehgiooklaa.G.r_kind_0 (g4 (x0 + Int.toNat x3) (3 : Nat)) (8 : Int)) (g4 (x0 + Int.toNat x3) (4 : Nat))).steps)), (.q ((Go.Proofs.Ythgagehgiooklaa.G.Mem.stM { n := n9, g := g9, h := h9, off := x5, burns := x6, left := x7, steps := x8 } (8 : Int) (Go.Proofs.Ythgagehgiooklaa.G.r_kind_0 (g4 (x0 + Int.toNat x3) (3 : Nat)) (8 : Int)) (g4 (x0 + Int.toNat x3) (4 : Nat))).n) ((Go.Proofs.Ythgagehgiooklaa.G.Mem.stM { n := n9, g := g9, h := h9, off := x5, burns := x6, left := x7, steps := x8 } (8 : Int) (Go.Proofs.Ythgagehgiooklaa.G.r_kind_0 (g4 (x0 + Int.toNat x3) (3 : Nat)) (8 : Int)) (g4 (x0 + Int.toNat x3) (4 : Nat))).g) ((16 : Nat)) ((2 : Nat)) ((Go.Proofs.Ythgagehgiooklaa.G.Mem.stM { n := n9, g := g9, h := h9, off := x5, burns := x6, left := x7, steps := x8 } (8 : Int) (Go.Proofs.Ythgagehgiooklaa.G.r_kind_0 (g4 (x0 + Int.toNat x3) (3 : Nat)) (8 : Int)) (g4 (x0 + Int.toNat x3) (4 : Nat))).h))]))))
 (.no))
 (.no))
 (.br 63 (Go.Proofs.Ythgagehgiooklaa.G.r_kind_0 (g4 (x0 + Int.toNat x3) (0 : Nat)) (5 : Int) == (1 : Int))
 (.br 0 (Go.Proofs.Ythgagehgiooklaa.G.ok_kind (g4 (x0 + Int.toNat x3) (1 : Nat)) (8 : Int))
 (.br 0 (Go.Proofs.Ythgagehgiooklaa.G.pdec (Go.Proofs.Ythgagehgiooklaa.G.Mem.Ok (900000 : Int) { n := n9, g := g9, h := h9, off := x5, burns := x6, left := x7, steps := x8 }))
 (.br 99 (Go.Proofs.Ythgagehgiooklaa.G.Mem.ldC (Go.Proofs.Ythgagehgiooklaa.G.Mem.flM { n := n9, g := g9, h := h9, off := x5, burns := x6, left := x7, steps := x8 } (Go.Proofs.Ythgagehgiooklaa.G.r_kind_0 (g4 (x0 + Int.toNat x3) (1 : Nat)) (8 : Int)) (8 : Int)) (7 : Int) != (0 : Int))
 (.ok (.ret, [(.b (Bool.false))]))
 (.br 104 ((NvmApart_9_c8 x0 x2 x3 g4 x5 x6 x7 x8 n9 g9 h9))
 (.ok (.ret, [(.b (Bool.false))]))
 (.ok (.normal, [(.n (x0)), (.n (x1)), (.i (x2)), (.i (Go.IntKind.wrap Go.IntKind.i64 (x3 + (1 : Int)))), (.q (n4) (g4) ((5 : Nat)) ((1 : Nat)) (h4)), (.b ((Go.Proofs.Ythgagehgiooklaa.G.Mem.flM { n := n9, g := g9, h := h9, off := x5, burns := x6, left := x7, steps := x8 } (Go.Proofs.Ythgagehgiooklaa.G.r_kind_0 (g4 (x0 + Int.toNat x3) (1 : Nat)) (8 : Int)) (8 : Int)).off)), (.b ((Go.Proofs.Ythgagehgiooklaa.G.Mem.flM { n := n9, g := g9, h := h9, off := x5, burns := x6, left := x7, steps := x8 } (Go.Proofs.Ythgagehgiooklaa.G.r_kind_0 (g4 (x0 + Int.toNat x3) (1 : Nat)) (8 : Int)) (8 : Int)).burns)), (.i ((Go.Proofs.Ythgagehgiooklaa.G.Mem.flM { n := n9, g := g9, h := h9, off := x5, burns := x6, left := x7, steps := x8 } (Go.Proofs.Ythgagehgiooklaa.G.r_kind_0 (g4 (x0 + Int.toNat x3) (1 : Nat)) (8 : Int)) (8 : Int)).left)), (.i ((Go.Proofs.Ythgagehgiooklaa.G.Mem.flM { n := n9, g := g9, h := h9, off := x5, burns := x6, left := x7, steps := x8 } (Go.Proofs.Ythgagehgiooklaa.G.r_kind_0 (g4 (x0 + Int.toNat x3) (1 : Nat)) (8 : Int)) (8 : Int)).steps)), (.q ((Go.Proofs.Ythgagehgiooklaa.G.Mem.flM { n := n9, g := g9, h := h9, off := x5, burns := x6, left := x7, steps := x8 } (Go.Proofs.Ythgagehgiooklaa.G.r_kind_0 (g4 (x0 + Int.toNat x3) (1 : Nat)) (8 : Int)) (8 : Int)).n) ((Go.Proofs.Ythgagehgiooklaa.G.Mem.flM { n := n9, g := g9, h := h9, off := x5, burns := x6, left := x7, steps := x8 } (Go.Proofs.Ythgagehgiooklaa.G.r_kind_0 (g4 (x0 + Int.toNat x3) (1 : Nat)) (8 : Int)) (8 : Int)).g) ((16 : Nat)) ((2 : Nat)) ((Go.Proofs.Ythgagehgiooklaa.G.Mem.flM { n := n9, g := g9, h := h9, off := x5, burns := x6, left := x7, steps := x8 } (Go.Proofs.Ythgagehgiooklaa.G.r_kind_0 (g4 (x0 + Int.toNat x3) (1 : Nat)) (8 : Int)) (8 : Int)).h))]))))
 (.no))
 (.no))
 (.br 71 (Go.Proofs.Ythgagehgiooklaa.G.r_kind_0 (g4 (x0 + Int.toNat x3) (0 : Nat)) (5 : Int) == (2 : Int))
 (.br 0 (Go.Proofs.Ythgagehgiooklaa.G.ok_kind (g4 (x0 + Int.toNat x3) (1 : Nat)) (8 : Int))
 (.br 0 (Go.Proofs.Ythgagehgiooklaa.G.pdec (Go.Proofs.Ythgagehgiooklaa.G.Mem.Ok (900000 : Int) { n := n9, g := g9, h := h9, off := x5, burns := x6, left := x7, steps := x8 }))
 (.br 99 (Go.Proofs.Ythgagehgiooklaa.G.Mem.ldC (Go.Proofs.Ythgagehgiooklaa.G.Mem.feM { n := n9, g := g9, h := h9, off := x5, burns := x6, left := x7, steps := x8 } (Go.Proofs.Ythgagehgiooklaa.G.r_kind_0 (g4 (x0 + Int.toNat x3) (1 : Nat)) (8 : Int))) (7 : Int) != (0 : Int))
 (.ok (.ret, [(.b (Bool.false))]))
 (.br 104 ((NvmApart_9_c12 x0 x2 x3 g4 x5 x6 x7 x8 n9 g9 h9))
 (.ok (.ret, [(.b (Bool.false))]))
 (.ok (.normal, [(.n (x0)), (.n (x1)), (.i (x2)), (.i (Go.IntKind.wrap Go.IntKind.i64 (x3 + (1 : Int)))), (.q (n4) (g4) ((5 : Nat)) ((1 : Nat)) (h4)), (.b ((Go.Proofs.Ythgagehgiooklaa.G.Mem.feM { n := n9, g := g9, h := h9, off := x5, burns := x6, left := x7, steps := x8 } (Go.Proofs.Ythgagehgiooklaa.G.r_kind_0 (g4 (x0 + Int.toNat x3) (1 : Nat)) (8 : Int))).off)), (.b ((Go.Proofs.Ythgagehgiooklaa.G.Mem.feM { n := n9, g := g9, h := h9, off := x5, burns := x6, left := x7, steps := x8 } (Go.Proofs.Ythgagehgiooklaa.G.r_kind_0 (g4 (x0 + Int.toNat x3) (1 : Nat)) (8 : Int))).burns)), (.i ((Go.Proofs.Ythgagehgiooklaa.G.Mem.feM { n := n9, g := g9, h := h9, off := x5, burns := x6, left := x7, steps := x8 } (Go.Proofs.Ythgagehgiooklaa.G.r_kind_0 (g4 (x0 + Int.toNat x3) (1 : Nat)) (8 : Int))).left)), (.i ((Go.Proofs.Ythgagehgiooklaa.G.Mem.feM { n := n9, g := g9, h := h9, off := x5, burns := x6, left := x7, steps := x8 } (Go.Proofs.Ythgagehgiooklaa.G.r_kind_0 (g4 (x0 + Int.toNat x3) (1 : Nat)) (8 : Int))).steps)), (.q ((Go.Proofs.Ythgagehgiooklaa.G.Mem.feM { n := n9, g := g9, h := h9, off := x5, burns := x6, left := x7, steps := x8 } (Go.Proofs.Ythgagehgiooklaa.G.r_kind_0 (g4 (x0 + Int.toNat x3) (1 : Nat)) (8 : Int))).n) ((Go.Proofs.Ythgagehgiooklaa.G.Mem.feM { n := n9, g := g9, h := h9, off := x5, burns := x6, left := x7, steps := x8 } (Go.Proofs.Ythgagehgiooklaa.G.r_kind_0 (g4 (x0 + Int.toNat x3) (1 : Nat)) (8 : Int))).g) ((16 : Nat)) ((2 : Nat)) ((Go.Proofs.Ythgagehgiooklaa.G.Mem.feM { n := n9, g := g9, h := h9, off := x5, burns := x6, left := x7, steps := x8 } (Go.Proofs.Ythgagehgiooklaa.G.r_kind_0 (g4 (x0 + Int.toNat x3) (1 : Nat)) (8 : Int))).h))]))))
 (.no))
 (.no))
 (.br 78 (Go.Proofs.Ythgagehgiooklaa.G.r_kind_0 (g4 (x0 + Int.toNat x3) (0 : Nat)) (5 : Int) == (3 : Int))
 (.br 0 (Go.Proofs.Ythgagehgiooklaa.G.ok_kind (g4 (x0 + Int.toNat x3) (3 : Nat)) (9 : Int))
 (.br 0 (Go.Proofs.Ythgagehgiooklaa.G.pdec (Go.Proofs.Ythgagehgiooklaa.G.Mem.Ok (900000 : Int) { n := n9, g := g9, h := h9, off := x5, burns := x6, left := x7, steps := x8 }))
 (.br 99 (Go.Proofs.Ythgagehgiooklaa.G.Mem.ldC (Go.Proofs.Ythgagehgiooklaa.G.Mem.evM { n := n9, g := g9, h := h9, off := x5, burns := x6, left := x7, steps := x8 } (8 : Int) (Go.Proofs.Ythgagehgiooklaa.G.r_kind_0 (g4 (x0 + Int.toNat x3) (3 : Nat)) (9 : Int))) (7 : Int) != (0 : Int))
 (.ok (.ret, [(.b (Bool.false))]))
 (.br 104 ((NvmApart_9_c16 x0 x2 x3 g4 x5 x6 x7 x8 n9 g9 h9))
 (.ok (.ret, [(.b (Bool.false))]))
 (.ok (.normal, [(.n (x0)), (.n (x1)), (.i (x2)), (.i (Go.IntKind.wrap Go.IntKind.i64 (x3 + (1 : Int)))), (.q (n4) (g4) ((5 : Nat)) ((1 : Nat)) (h4)), (.b ((Go.Proofs.Ythgagehgiooklaa.G.Mem.evM { n := n9, g := g9, h := h9, off := x5, burns := x6, left := x7, steps := x8 } (8 : Int) (Go.Proofs.Ythgagehgiooklaa.G.r_kind_0 (g4 (x0 + Int.toNat x3) (3 : Nat)) (9 : Int))).off)), (.b ((Go.Proofs.Ythgagehgiooklaa.G.Mem.evM { n := n9, g := g9, h := h9, off := x5, burns := x6, left := x7, steps := x8 } (8 : Int) (Go.Proofs.Ythgagehgiooklaa.G.r_kind_0 (g4 (x0 + Int.toNat x3) (3 : Nat)) (9 : Int))).burns)), (.i ((Go.Proofs.Ythgagehgiooklaa.G.Mem.evM { n := n9, g := g9, h := h9, off := x5, burns := x6, left := x7, steps := x8 } (8 : Int) (Go.Proofs.Ythgagehgiooklaa.G.r_kind_0 (g4 (x0 + Int.toNat x3) (3 : Nat)) (9 : Int))).left)), (.i ((Go.Proofs.Ythgagehgiooklaa.G.Mem.evM { n := n9, g := g9, h := h9, off := x5, burns := x6, left := x7, steps := x8 } (8 : Int) (Go.Proofs.Ythgagehgiooklaa.G.r_kind_0 (g4 (x0 + Int.toNat x3) (3 : Nat)) (9 : Int))).steps)), (.q ((Go.Proofs.Ythgagehgiooklaa.G.Mem.evM { n := n9, g := g9, h := h9, off := x5, burns := x6, left := x7, steps := x8 } (8 : Int) (Go.Proofs.Ythgagehgiooklaa.G.r_kind_0 (g4 (x0 + Int.toNat x3) (3 : Nat)) (9 : Int))).n) ((Go.Proofs.Ythgagehgiooklaa.G.Mem.evM { n := n9, g := g9, h := h9, off := x5, burns := x6, left := x7, steps := x8 } (8 : Int) (Go.Proofs.Ythgagehgiooklaa.G.r_kind_0 (g4 (x0 + Int.toNat x3) (3 : Nat)) (9 : Int))).g) ((16 : Nat)) ((2 : Nat)) ((Go.Proofs.Ythgagehgiooklaa.G.Mem.evM { n := n9, g := g9, h := h9, off := x5, burns := x6, left := x7, steps := x8 } (8 : Int) (Go.Proofs.Ythgagehgiooklaa.G.r_kind_0 (g4 (x0 + Int.toNat x3) (3 : Nat)) (9 : Int))).h))]))))
 (.no))
 (.no))
 (B_NvmApart_9_s0 x0 x1 x2 x3 n4 g4 h4 x5 x6 x7 x8 n9 g9 h9)))))
 (.no))
 (.br 0 (Go.Proofs.Ythgagehgiooklaa.G.ok_kind (g4 (x0 + Int.toNat x3) (0 : Nat)) (5 : Int))
 (.br 53 (Go.Proofs.Ythgagehgiooklaa.G.r_kind_0 (g4 (x0 + Int.toNat x3) (0 : Nat)) (5 : Int) == (0 : Int))
 (.br 0 (Go.Proofs.Ythgagehgiooklaa.G.ok_kind (g4 (x0 + Int.toNat x3) (3 : Nat)) (8 : Int))
 (.br 0 (Go.Proofs.Ythgagehgiooklaa.G.pdec (Go.Proofs.Ythgagehgiooklaa.G.Mem.Ok (900000 : Int) { n := n9, g := g9, h := h9, off := x5, burns := x6, left := x7, steps := x8 }))
 (.br 99 (Go.Proofs.Ythgagehgiooklaa.G.Mem.ldC (Go.Proofs.Ythgagehgiooklaa.G.Mem.stM { n := n9, g := g9, h := h9, off := x5, burns := x6, left := x7, steps := x8 } (Go.Proofs.Ythgagehgiooklaa.G.r_kind_0 (g4 (x0 + Int.toNat x3) (2 : Nat)) (64 : Int)) (Go.Proofs.Ythgagehgiooklaa.G.r_kind_0 (g4 (x0 + Int.toNat x3) (3 : Nat)) (8 : Int)) (g4 (x0 + Int.toNat x3) (4 : Nat))) (7 : Int) != (0 : Int))
 (.ok (.ret, [(.b (Bool.false))]))
 (.br 104 ((NvmApart_9_c28 x0 x2 x3 g4 x5 x6 x7 x8 n9 g9 h9))
 (.ok (.ret, [(.b (Bool.false))]))
 (.ok (.normal, [(.n (x0)), (.n (x1)), (.i (x2)), (.i (Go.IntKind.wrap Go.IntKind.i64 (x3 + (1 : Int)))), (.q (n4) (g4) ((5 : Nat)) ((1 : Nat)) (h4)), (.b ((Go.Proofs.Ythgagehgiooklaa.G.Mem.stM { n := n9, g := g9, h := h9, off := x5, burns := x6, left := x7, steps := x8 } (Go.Proofs.Ythgagehgiooklaa.G.r_kind_0 (g4 (x0 + Int.toNat x3) (2 : Nat)) (64 : Int)) (Go.Proofs.Ythgagehgiooklaa.G.r_kind_0 (g4 (x0 + Int.toNat x3) (3 : Nat)) (8 : Int)) (g4 (x0 + Int.toNat x3) (4 : Nat))).off)), (.b ((Go.Proofs.Ythgagehgiooklaa.G.Mem.stM { n := n9, g := g9, h := h9, off := x5, burns := x6, left := x7, steps := x8 } (Go.Proofs.Ythgagehgiooklaa.G.r_kind_0 (g4 (x0 + Int.toNat x3) (2 : Nat)) (64 : Int)) (Go.Proofs.Ythgagehgiooklaa.G.r_kind_0 (g4 (x0 + Int.toNat x3) (3 : Nat)) (8 : Int)) (g4 (x0 + Int.toNat x3) (4 : Nat))).burns)), (.i ((Go.Proofs.Ythgagehgiooklaa.G.Mem.stM { n := n9, g := g9, h := h9, off := x5, burns := x6, left := x7, steps := x8 } (Go.Proofs.Ythgagehgiooklaa.G.r_kind_0 (g4 (x0 + Int.toNat x3) (2 : Nat)) (64 : Int)) (Go.Proofs.Ythgagehgiooklaa.G.r_kind_0 (g4 (x0 + Int.toNat x3) (3 : Nat)) (8 : Int)) (g4 (x0 + Int.toNat x3) (4 : Nat))).left)), (.i ((Go.Proofs.Ythgagehgiooklaa.G.Mem.stM { n := n9, g := g9, h := h9, off := x5, burns := x6, left := x7, steps := x8 } (Go.Proofs.Ythgagehgiooklaa.G.r_kind_0 (g4 (x0 + Int.toNat x3) (2 : Nat)) (64 : Int)) (Go.Proofs.Ythgagehgiooklaa.G.r_kind_0 (g4 (x0 + Int.toNat x3) (3 : Nat)) (8 : Int)) (g4 (x0 + Int.toNat x3) (4 : Nat))).steps)), (.q ((Go.Proofs.Ythgagehgiooklaa.G.Mem.stM { n := n9, g := g9, h := h9, off := x5, burns := x6, left := x7, steps := x8 } (Go.Proofs.Ythgagehgiooklaa.G.r_kind_0 (g4 (x0 + Int.toNat x3) (2 : Nat)) (64 : Int)) (Go.Proofs.Ythgagehgiooklaa.G.r_kind_0 (g4 (x0 + Int.toNat x3) (3 : Nat)) (8 : Int)) (g4 (x0 + Int.toNat x3) (4 : Nat))).n) ((Go.Proofs.Ythgagehgiooklaa.G.Mem.stM { n := n9, g := g9, h := h9, off := x5, burns := x6, left := x7, steps := x8 } (Go.Proofs.Ythgagehgiooklaa.G.r_kind_0 (g4 (x0 + Int.toNat x3) (2 : Nat)) (64 : Int)) (Go.Proofs.Ythgagehgiooklaa.G.r_kind_0 (g4 (x0 + Int.toNat x3) (3 : Nat)) (8 : Int)) (g4 (x0 + Int.toNat x3) (4 : Nat))).g) ((16 : Nat)) ((2 : Nat)) ((Go.Proofs.Ythgagehgiooklaa.G.Mem.stM { n := n9, g := g9, h := h9, off := x5, burns := x6, left := x7, steps := x8 } (Go.Proofs.Ythgagehgiooklaa.G.r_kind_0 (g4 (x0 + Int.toNat x3) (2 : Nat)) (64 : Int)) (Go.Proofs.Ythgagehgiooklaa.G.r_kind_0 (g4 (x0 + Int.toNat x3) (3 : Nat)) (8 : Int)) (g4 (x0 + Int.toNat x3) (4 : Nat))).h))]))))
 (.no))
 (.no))
 (.br 63 (Go.Proofs.Ythgagehgiooklaa.G.r_kind_0 (g4 (x0 + Int.toNat x3) (0 : Nat)) (5 : Int) == (1 : Int))
 (.br 0 (Go.Proofs.Ythgagehgiooklaa.G.ok_kind (g4 (x0 + Int.toNat x3) (1 : Nat)) (8 : Int))
 (.br 0 (Go.Proofs.Ythgagehgiooklaa.G.pdec (Go.Proofs.Ythgagehgiooklaa.G.Mem.Ok (900000 : Int) { n := n9, g := g9, h := h9, off := x5, burns := x6, left := x7, steps := x8 }))
 (.br 99 (Go.Proofs.Ythgagehgiooklaa.G.Mem.ldC (Go.Proofs.Ythgagehgiooklaa.G.Mem.flM { n := n9, g := g9, h := h9, off := x5, burns := x6, left := x7, steps := x8 } (Go.Proofs.Ythgagehgiooklaa.G.r_kind_0 (g4 (x0 + Int.toNat x3) (1 : Nat)) (8 : Int)) (Go.Proofs.Ythgagehgiooklaa.G.r_kind_0 (g4 (x0 + Int.toNat x3) (2 : Nat)) (64 : Int))) (7 : Int) != (0 : Int))
 (.ok (.ret, [(.b (Bool.false))]))
 (.br 104 ((NvmApart_9_c34 x0 x2 x3 g4 x5 x6 x7 x8 n9 g9 h9))
 (.ok (.ret, [(.b (Bool.false))]))
 (.ok (.normal, [(.n (x0)), (.n (x1)), (.i (x2)), (.i (Go.IntKind.wrap Go.IntKind.i64 (x3 + (1 : Int)))), (.q (n4) (g4) ((5 : Nat)) ((1 : Nat)) (h4)), (.b ((Go.Proofs.Ythgagehgiooklaa.G.Mem.flM { n := n9, g := g9, h := h9, off := x5, burns := x6, left := x7, steps := x8 } (Go.Proofs.Ythgagehgiooklaa.G.r_kind_0 (g4 (x0 + Int.toNat x3) (1 : Nat)) (8 : Int)) (Go.Proofs.Ythgagehgiooklaa.G.r_kind_0 (g4 (x0 + Int.toNat x3) (2 : Nat)) (64 : Int))).off)), (.b ((Go.Proofs.Ythgagehgiooklaa.G.Mem.flM { n := n9, g := g9, h := h9, off := x5, burns := x6, left := x7, steps := x8 } (Go.Proofs.Ythgagehgiooklaa.G.r_kind_0 (g4 (x0 + Int.toNat x3) (1 : Nat)) (8 : Int)) (Go.Proofs.Ythgagehgiooklaa.G.r_kind_0 (g4 (x0 + Int.toNat x3) (2 : Nat)) (64 : Int))).burns)), (.i ((Go.Proofs.Ythgagehgiooklaa.G.Mem.flM { n := n9, g := g9, h := h9, off := x5, burns := x6, left := x7, steps := x8 } (Go.Proofs.Ythgagehgiooklaa.G.r_kind_0 (g4 (x0 + Int.toNat x3) (1 : Nat)) (8 : Int)) (Go.Proofs.Ythgagehgiooklaa.G.r_kind_0 (g4 (x0 + Int.toNat x3) (2 : Nat)) (64 : Int))).left)), (.i ((Go.Proofs.Ythgagehgiooklaa.G.Mem.flM { n := n9, g := g9, h := h9, off := x5, burns := x6, left := x7, steps := x8 } (Go.Proofs.Ythgagehgiooklaa.G.r_kind_0 (g4 (x0 + Int.toNat x3) (1 : Nat)) (8 : Int)) (Go.Proofs.Ythgagehgiooklaa.G.r_kind_0 (g4 (x0 + Int.toNat x3) (2 : Nat)) (64 : Int))).steps)), (.q ((Go.Proofs.Ythgagehgiooklaa.G.Mem.flM { n := n9, g := g9, h := h9, off := x5, burns := x6, left := x7, steps := x8 } (Go.Proofs.Ythgagehgiooklaa.G.r_kind_0 (g4 (x0 + Int.toNat x3) (1 : Nat)) (8 : Int)) (Go.Proofs.Ythgagehgiooklaa.G.r_kind_0 (g4 (x0 + Int.toNat x3) (2 : Nat)) (64 : Int))).n) ((Go.Proofs.Ythgagehgiooklaa.G.Mem.flM { n := n9, g := g9, h := h9, off := x5, burns := x6, left := x7, steps := x8 } (Go.Proofs.Ythgagehgiooklaa.G.r_kind_0 (g4 (x0 + Int.toNat x3) (1 : Nat)) (8 : Int)) (Go.Proofs.Ythgagehgiooklaa.G.r_kind_0 (g4 (x0 + Int.toNat x3) (2 : Nat)) (64 : Int))).g) ((16 : Nat)) ((2 : Nat)) ((Go.Proofs.Ythgagehgiooklaa.G.Mem.flM { n := n9, g := g9, h := h9, off := x5, burns := x6, left := x7, steps := x8 } (Go.Proofs.Ythgagehgiooklaa.G.r_kind_0 (g4 (x0 + Int.toNat x3) (1 : Nat)) (8 : Int)) (Go.Proofs.Ythgagehgiooklaa.G.r_kind_0 (g4 (x0 + Int.toNat x3) (2 : Nat)) (64 : Int))).h))]))))
 (.no))
 (.no))
 (.br 71 (Go.Proofs.Ythgagehgiooklaa.G.r_kind_0 (g4 (x0 + Int.toNat x3) (0 : Nat)) (5 : Int) == (2 : Int))
 (.br 0 (Go.Proofs.Ythgagehgiooklaa.G.ok_kind (g4 (x0 + Int.toNat x3) (1 : Nat)) (8 : Int))
 (.br 0 (Go.Proofs.Ythgagehgiooklaa.G.pdec (Go.Proofs.Ythgagehgiooklaa.G.Mem.Ok (900000 : Int) { n := n9, g := g9, h := h9, off := x5, burns := x6, left := x7, steps := x8 }))
 (.br 99 (Go.Proofs.Ythgagehgiooklaa.G.Mem.ldC (Go.Proofs.Ythgagehgiooklaa.G.Mem.feM { n := n9, g := g9, h := h9, off := x5, burns := x6, left := x7, steps := x8 } (Go.Proofs.Ythgagehgiooklaa.G.r_kind_0 (g4 (x0 + Int.toNat x3) (1 : Nat)) (8 : Int))) (7 : Int) != (0 : Int))
 (.ok (.ret, [(.b (Bool.false))]))
 (.br 104 ((NvmApart_9_c12 x0 x2 x3 g4 x5 x6 x7 x8 n9 g9 h9))
 (.ok (.ret, [(.b (Bool.false))]))
 (.ok (.normal, [(.n (x0)), (.n (x1)), (.i (x2)), (.i (Go.IntKind.wrap Go.IntKind.i64 (x3 + (1 : Int)))), (.q (n4) (g4) ((5 : Nat)) ((1 : Nat)) (h4)), (.b ((Go.Proofs.Ythgagehgiooklaa.G.Mem.feM { n := n9, g := g9, h := h9, off := x5, burns := x6, left := x7, steps := x8 } (Go.Proofs.Ythgagehgiooklaa.G.r_kind_0 (g4 (x0 + Int.toNat x3) (1 : Nat)) (8 : Int))).off)), (.b ((Go.Proofs.Ythgagehgiooklaa.G.Mem.feM { n := n9, g := g9, h := h9, off := x5, burns := x6, left := x7, steps := x8 } (Go.Proofs.Ythgagehgiooklaa.G.r_kind_0 (g4 (x0 + Int.toNat x3) (1 : Nat)) (8 : Int))).burns)), (.i ((Go.Proofs.Ythgagehgiooklaa.G.Mem.feM { n := n9, g := g9, h := h9, off := x5, burns := x6, left := x7, steps := x8 } (Go.Proofs.Ythgagehgiooklaa.G.r_kind_0 (g4 (x0 + Int.toNat x3) (1 : Nat)) (8 : Int))).left)), (.i ((Go.Proofs.Ythgagehgiooklaa.G.Mem.feM { n := n9, g := g9, h := h9, off := x5, burns := x6, left := x7, steps := x8 } (Go.Proofs.Ythgagehgiooklaa.G.r_kind_0 (g4 (x0 + Int.toNat x3) (1 : Nat)) (8 : Int))).steps)), (.q ((Go.Proofs.Ythgagehgiooklaa.G.Mem.feM { n := n9, g := g9, h := h9, off := x5, burns := x6, left := x7, steps := x8 } (Go.Proofs.Ythgagehgiooklaa.G.r_kind_0 (g4 (x0 + Int.toNat x3) (1 : Nat)) (8 : Int))).n) ((Go.Proofs.Ythgagehgiooklaa.G.Mem.feM { n := n9, g := g9, h := h9, off := x5, burns := x6, left := x7, steps := x8 } (Go.Proofs.Ythgagehgiooklaa.G.r_kind_0 (g4 (x0 + Int.toNat x3) (1 : Nat)) (8 : Int))).g) ((16 : Nat)) ((2 : Nat)) ((Go.Proofs.Ythgagehgiooklaa.G.Mem.feM { n := n9, g := g9, h := h9, off := x5, burns := x6, left := x7, steps := x8 } (Go.Proofs.Ythgagehgiooklaa.G.r_kind_0 (g4 (x0 + Int.toNat x3) (1 : Nat)) (8 : Int))).h))]))))
 (.no))
 (.no))
 (.br 78 (Go.Proofs.Ythgagehgiooklaa.G.r_kind_0 (g4 (x0 + Int.toNat x3) (0 : Nat)) (5 : Int) == (3 : Int))
 (.br 0 (Go.Proofs.Ythgagehgiooklaa.G.ok_kind (g4 (x0 + Int.toNat x3) (3 : Nat)) (9 : Int))
 (.br 0 (Go.Proofs.Ythgagehgiooklaa.G.pdec (Go.Proofs.Ythgagehgiooklaa.G.Mem.Ok (900000 : Int) { n := n9, g := g9, h := h9, off := x5, burns := x6, left := x7, steps := x8 }))
 (.br 99 (Go.Proofs.Ythgagehgiooklaa.G.Mem.ldC (Go.Proofs.Ythgagehgiooklaa.G.Mem.evM { n := n9, g := g9, h := h9, off := x5, burns := x6, left := x7, steps := x8 } (Go.Proofs.Ythgagehgiooklaa.G.r_kind_0 (g4 (x0 + Int.toNat x3) (2 : Nat)) (64 : Int)) (Go.Proofs.Ythgagehgiooklaa.G.r_kind_0 (g4 (x0 + Int.toNat x3) (3 : Nat)) (9 : Int))) (7 : Int) != (0 : Int))
 (.ok (.ret, [(.b (Bool.false))]))
 (.br 104 ((NvmApart_9_c40 x0 x2 x3 g4 x5 x6 x7 x8 n9 g9 h9))
 (.ok (.ret, [(.b (Bool.false))]))
 (.ok (.normal, [(.n (x0)), (.n (x1)), (.i (x2)), (.i (Go.IntKind.wrap Go.IntKind.i64 (x3 + (1 : Int)))), (.q (n4) (g4) ((5 : Nat)) ((1 : Nat)) (h4)), (.b ((Go.Proofs.Ythgagehgiooklaa.G.Mem.evM { n := n9, g := g9, h := h9, off := x5, burns := x6, left := x7, steps := x8 } (Go.Proofs.Ythgagehgiooklaa.G.r_kind_0 (g4 (x0 + Int.toNat x3) (2 : Nat)) (64 : Int)) (Go.Proofs.Ythgagehgiooklaa.G.r_kind_0 (g4 (x0 + Int.toNat x3) (3 : Nat)) (9 : Int))).off)), (.b ((Go.Proofs.Ythgagehgiooklaa.G.Mem.evM { n := n9, g := g9, h := h9, off := x5, burns := x6, left := x7, steps := x8 } (Go.Proofs.Ythgagehgiooklaa.G.r_kind_0 (g4 (x0 + Int.toNat x3) (2 : Nat)) (64 : Int)) (Go.Proofs.Ythgagehgiooklaa.G.r_kind_0 (g4 (x0 + Int.toNat x3) (3 : Nat)) (9 : Int))).burns)), (.i ((Go.Proofs.Ythgagehgiooklaa.G.Mem.evM { n := n9, g := g9, h := h9, off := x5, burns := x6, left := x7, steps := x8 } (Go.Proofs.Ythgagehgiooklaa.G.r_kind_0 (g4 (x0 + Int.toNat x3) (2 : Nat)) (64 : Int)) (Go.Proofs.Ythgagehgiooklaa.G.r_kind_0 (g4 (x0 + Int.toNat x3) (3 : Nat)) (9 : Int))).left)), (.i ((Go.Proofs.Ythgagehgiooklaa.G.Mem.evM { n := n9, g := g9, h := h9, off := x5, burns := x6, left := x7, steps := x8 } (Go.Proofs.Ythgagehgiooklaa.G.r_kind_0 (g4 (x0 + Int.toNat x3) (2 : Nat)) (64 : Int)) (Go.Proofs.Ythgagehgiooklaa.G.r_kind_0 (g4 (x0 + Int.toNat x3) (3 : Nat)) (9 : Int))).steps)), (.q ((Go.Proofs.Ythgagehgiooklaa.G.Mem.evM { n := n9, g := g9, h := h9, off := x5, burns := x6, left := x7, steps := x8 } (Go.Proofs.Ythgagehgiooklaa.G.r_kind_0 (g4 (x0 + Int.toNat x3) (2 : Nat)) (64 : Int)) (Go.Proofs.Ythgagehgiooklaa.G.r_kind_0 (g4 (x0 + Int.toNat x3) (3 : Nat)) (9 : Int))).n) ((Go.Proofs.Ythgagehgiooklaa.G.Mem.evM { n := n9, g := g9, h := h9, off := x5, burns := x6, left := x7, steps := x8 } (Go.Proofs.Ythgagehgiooklaa.G.r_kind_0 (g4 (x0 + Int.toNat x3) (2 : Nat)) (64 : Int)) (Go.Proofs.Ythgagehgiooklaa.G.r_kind_0 (g4 (x0 + Int.toNat x3) (3 : Nat)) (9 : Int))).g) ((16 : Nat)) ((2 : Nat)) ((Go.Proofs.Ythgagehgiooklaa.G.Mem.evM { n := n9, g := g9, h := h9, off := x5, burns := x6, left := x7, steps := x8 } (Go.Proofs.Ythgagehgiooklaa.G.r_kind_0 (g4 (x0 + Int.toNat x3) (2 : Nat)) (64 : Int)) (Go.Proofs.Ythgagehgiooklaa.G.r_kind_0 (g4 (x0 + Int.toNat x3) (3 : Nat)) (9 : Int))).h))]))))
 (.no))
 (.no))
 (B_NvmApart_9_s0 x0 x1 x2 x3 n4 g4 h4 x5 x6 x7 x8 n9 g9 h9)))))
 (.no)))
 (.no))
 (.no))
 (.ok (.exit 0, [])))
 (.ok (.exit 0, []))
noncomputable def y_NvmApart_9 : Nat → Option Nat := (syOf3 [35, 38, 43, 49, 53, 99, 104, 63, 71, 78, 86] [] [])
noncomputable def BL_NvmApart_9 (l : List At) : Tr (Ex × List At) := B_NvmApart_9 (aN l 0) (aN l 1) (aI l 2) (aI l 3) (aRn l 4) (aRg l 4) (aMh l 4 5 1) (aB l 5) (aB l 6) (aI l 7) (aI l 8) (aRn l 9) (aRg l 9) (aMh l 9 16 2)
theorem eB_NvmApart_9 (l : List At) : (exec Try.prog Γ_S13 y_NvmApart_9 noLoops 100 (loopAt Try.f8 9) ⟨mkV lsh_NvmApart_9 l, mkH lsh_NvmApart_9 l⟩).bind (leafL 2 xs_NvmApart_9) = BL_NvmApart_9 l := by kernel_rfl
/- by hand: O_NvmApart_9 (x0 : Nat) (x1 : Nat) (x2 : Int) (x3 : Int) (n4 : Nat) (g4 : Nat → Nat → Int) (h4 : Nat → Nat → Int) (x5 : Bool) (x6 : Bool) (x7 : Int) (x8 : Int) (n9 : Nat) (g9 : Nat → Nat → Int) (h9 : Nat → Nat → Int) : Tr (Ex × List At); OL_NvmApart_9 (l) := O_NvmApart_9 (aN l 0) (aN l 1) (aI l 2) (aI l 3) (aRn l 4) (aRg l 4) (aMh l 4 5 1) (aB l 5) (aB l 6) (aI l 7) (aI l 8) (aRn l 9) (aRg l 9) (aMh l 9 16 2); μ_NvmApart_9 : List At → Nat; rd_NvmApart_9 : ∀ l r, (OL_NvmApart_9 l).val = some r → RoundA BL_NvmApart_9 OL_NvmApart_9 μ_NvmApart_9 l r -/

end Go.Proofs.Ythgagehgiooklaa.G
end

/-
  The loop of NvmApart: calls to other lines.
-/
section
namespace Go.Proofs.Ythgagehgiooklaa.G
open Go Go.AM Go.Proofs

theorem stM_other {m : Mem} {i w v : Int} {j : Nat} (h : j ≠ i.toNat) : (m.stM i w v).g j = m.g j := by
  unfold Mem.stM
  cases m.bad i w with
  | true => rfl
  | false => cases m.po with
    | true => rfl
    | false => exact updR_ne h
theorem flM_other {m : Mem} {c i : Int} {j : Nat} (h : j ≠ i.toNat) : (m.flM c i).g j = m.g j := by
  unfold Mem.flM
  cases m.bad i c with
  | true => rfl
  | false => cases m.po with
    | true => rfl
    | false => exact updR_ne h
theorem evM_other {m : Mem} {i x : Int} {j : Nat} (h : j ≠ i.toNat) : (m.evM i x).g j = m.g j := by
  unfold Mem.evM
  cases m.ebad i x with
  | true => rfl
  | false => cases m.off with
    | true => rfl
    | false => exact updR_ne h
theorem feM_idle {m : Mem} {c : Int} {j : Nat} (hr : RowOk (m.g j) (m.h j)) (h : m.g j 16 = 0) : (m.feM c).g j = m.g j := by
  unfold Mem.feM
  cases hb : corB c with
  | true => rfl
  | false => cases m.po with
    | true => rfl
    | false =>
      have hc := corB_no hb
      have := hr.2.2.1 (17 + c.toNat) (by omega) (by omega)
      show feG m.n m.g m.h (17 + c.toNat) 0 j = _
      unfold feG
      rw [if_neg (fun hh => by omega)]
theorem crM_idle {m : Mem} {q : Nat → Int} {kn j : Nat} (h : m.g j 16 = 0) : (m.crM q kn).g j = m.g j := by
  show crG m.n m.g m.h q kn 0 j = _
  unfold crG
  rw [if_neg (fun hh => by omega)]

/-- The line 7 has the one word. -/
structure ApInv (v : Int) (K : Int) (m : Mem) : Prop where
  on : m.on
  n : m.n = 64
  ok : m.Ok K
  cnt : m.g 7 16 = 0
  now : ∀ c, c < 8 → m.g 7 c = if c = 3 then v else 0

theorem ApInv.same {v K K' : Int} {m M : Mem} (h : ApInv v K m) (h1 : M.on) (h2 : M.n = m.n) (h3 : M.Ok K') (h4 : M.g 7 = m.g 7) : ApInv v K' M :=
  ⟨h1, h2.trans h.n, h3, by rw [h4]; exact h.cnt, fun c hc => by rw [h4]; exact h.now c hc⟩

def cmp7 (m : Mem) (v : Int) : Bool := m.ldW 7 0 == 0 && (m.ldW 7 1 == 0 && (m.ldW 7 2 == 0 && (m.ldW 7 3 == v && (m.ldW 7 4 == 0 && (m.ldW 7 5 == 0 && (m.ldW 7 6 == 0 && (m.ldW 7 7 == 0 && true)))))))

theorem cmp7_yes {v K : Int} {m : Mem} (h : ApInv v K m) : cmp7 m v = true := by
  have hi : (0 : Int) ≤ 7 ∧ (7 : Int) < m.n := ⟨by decide, by rw [h.n]; decide⟩
  have e : ∀ c, c < 8 → m.ldW 7 c = if c = 3 then v else 0 := fun c hc => (ldW_on h.on hi).trans (h.now c hc)
  unfold cmp7
  rw [e 0 (by omega), e 1 (by omega), e 2 (by omega), e 3 (by omega), e 4 (by omega), e 5 (by omega), e 6 (by omega), e 7 (by omega)]
  simp

def preAp (x1 : Nat) (v x3 : Int) (G H : Nat → Nat → Int) (m : Mem) : Prop :=
  0 ≤ x3 ∧ x3 ≤ 80 ∧ ApInv v (800000 + x3) m ∧ (∀ i c, i < x1 → c < 4 → -9223372036854775808 ≤ G i c ∧ G i c ≤ 9223372036854775807) ∧ ∀ i, i < x1 → KeepOk (fun j => H i ((0 + j) * 1 + 0)) (G i 5).toNat

noncomputable def O_NvmApart_9 (x0 x1 : Nat) (x2 x3 : Int) (g4 h4 : Nat → Nat → Int) (m : Mem) : Tr (Ex × List At) :=
  .br 0 (pdec (preAp x1 x2 x3 (fun i => g4 (x0 + i)) (fun i => h4 (x0 + i)) m)) (.ok (.exit 0, [])) .no
noncomputable def OL_NvmApart_9 (l : List At) : Tr (Ex × List At) := O_NvmApart_9 (aN l 0) (aN l 1) (aI l 2) (aI l 3) (aRg l 4) (aMh l 4 5 1) ⟨aRn l 9, aRg l 9, aMh l 9 16 2, aB l 5, aB l 6, aI l 7, aI l 8⟩
def μ_NvmApart_9 (l : List At) : Nat := (80 - aI l 3).toNat

theorem rd_NvmApart_9 : ∀ l r, (OL_NvmApart_9 l).val = some r → RoundS BL_NvmApart_9 OL_NvmApart_9 μ_NvmApart_9 l r := by
  intro l r hh
  unfold OL_NvmApart_9 at hh
  obtain ⟨hc, h⟩ := guard_val hh
  clear hh
  obtain ⟨c0, c1, c2, c3, c4⟩ := of_pdec hc
  have hr := val_ok h
  unfold RoundS BL_NvmApart_9 B_NvmApart_9 B_NvmApart_9_s0
  generalize hx0 : aN l 0 = x0 at *
  generalize hx1 : aN l 1 = x1 at *
  generalize hx2 : aI l 2 = x2 at *
  generalize hx3 : aI l 3 = x3 at *
  generalize hg4 : aRg l 4 = g4 at *
  generalize hh4 : aMh l 4 5 1 = h4 at *
  refine brD (fun h1 => brD (fun h2 => brW (fun _ => ?_) (fun hh => by exfalso; omega)) (fun h2 => ?_)) (fun h1 => ?_)
  · obtain ⟨i, rfl⟩ := Int.eq_ofNat_of_zero_le c0
    rw [Int.toNat_natCast]
    have hw : IntKind.i64.wrap ((i : Int) + 1) = (i : Int) + 1 := wrap_i64 (by omega) (by omega)
    have hμ : (80 - ((i : Int) + 1)).toNat < μ_NvmApart_9 l := by unfold μ_NvmApart_9; rw [hx3]; omega
    have hrow : ∀ c, c < 4 → -9223372036854775808 ≤ g4 (x0 + i) c ∧ g4 (x0 + i) c ≤ 9223372036854775807 := fun c hcc => c3 i c (by omega) hcc
    have hkeep : KeepOk (fun j => h4 (x0 + i) ((0 + j) * 1 + 0)) (g4 (x0 + i) 5).toNat := c4 i (by omega)
    have hM0 : ApInv x2 (800000 + i) (Mem.mk (aRn l 9) (aRg l 9) (aMh l 9 16 2) (aB l 5) (aB l 6) (aI l 7) (aI l 8)) := c2
    generalize hmm : Mem.mk (aRn l 9) (aRg l 9) (aMh l 9 16 2) (aB l 5) (aB l 6) (aI l 7) (aI l 8) = m at hM0
    have ok0 := pdec_yes (hM0.ok.mono (by omega : 800000 + (i : Int) ≤ 900000))
    have hr7 := (hM0.ok.2.2.2.2 7 (by rw [hM0.n]; decide)).1
    obtain ⟨q1, q2, q3⟩ := kind_in (n := 5) (hrow 0 (by omega)).1 (hrow 0 (by omega)).2 (by decide) (by decide)
    obtain ⟨a0, a1, a2⟩ := kind_in (n := 8) (hrow 1 (by omega)).1 (hrow 1 (by omega)).2 (by decide) (by decide)
    obtain ⟨b0, b1, b2⟩ := kind_in (n := 64) (hrow 2 (by omega)).1 (hrow 2 (by omega)).2 (by decide) (by decide)
    obtain ⟨d0, d1, d2⟩ := kind_in (n := 8) (hrow 3 (by omega)).1 (hrow 3 (by omega)).2 (by decide) (by decide)
    obtain ⟨e0, e1, e2⟩ := kind_in (n := 9) (hrow 3 (by omega)).1 (hrow 3 (by omega)).2 (by decide) (by decide)
    rw [hw]
    have go : ∀ (M' : Mem) (b : Bool) (dead : Tr (Ex × List At)), ApInv x2 (800000 + i + 1) M' → b = !cmp7 M' x2 →
        (Tr.br 99 (M'.ldC 7 != 0) (.ok (Ex.ret, [At.b false])) (.br 104 b (.ok (.ret, [.b false]))
            (.ok (.normal, [.n x0, .n x1, .i x2, .i ((i : Int) + 1), .q (aRn l 4) g4 5 1 h4, .b M'.off, .b M'.burns, .i M'.left, .i M'.steps, .q M'.n M'.g 16 2 M'.h])))).sat fun p => (p.1 = .normal ∧ ∃ l2 r', AtsEq p.2 l2 ∧ μ_NvmApart_9 l2 < μ_NvmApart_9 l ∧ (OL_NvmApart_9 l2).val = some r' ∧ r'.1 = r.1 ∧ AtsEq r'.2 r.2) ∨ (p.1 ≠ .normal ∧ r.1 = p.1 ∧ AtsEq p.2 r.2) := by
      intro M' b _ hM hb
      have hcd : M'.ldC 7 = 0 := ldC_on hM.on ⟨by decide, by rw [hM.n]; decide⟩
      have hq : preAp x1 x2 ((i : Int) + 1) (fun i => g4 (x0 + i)) (fun i => h4 (x0 + i)) M' := ⟨by omega, by omega, ⟨hM.on, hM.n, hM.ok.mono (by omega), hM.cnt, hM.now⟩, c3, c4⟩
      exact brF (by rw [hcd]; rfl) (brF (by rw [hb, cmp7_yes hM]; rfl) (on_ _ r (AtsEq.refl _) hμ ((br_t (g := 0) (pdec_yes hq)).trans h) rfl (AtsEq.refl _)))
    have iSt : ∀ (j w v : Int), j.toNat ≠ 7 → ApInv x2 (800000 + i + 1) (m.stM j w v) := fun j w v hj => hM0.same (stM_on' hM0.on) stM_n (stM_ok hM0.ok (by omega)) (stM_other (fun e => hj e.symm))
    have iFl : ∀ (c j : Int), j.toNat ≠ 7 → ApInv x2 (800000 + i + 1) (m.flM c j) := fun c j hj => hM0.same (flM_on' hM0.on) flM_n (flM_ok hM0.ok) (flM_other (fun e => hj e.symm))
    have iFe : ∀ (c : Int), ApInv x2 (800000 + i + 1) (m.feM c) := fun c => hM0.same (feM_on' hM0.on) feM_n (feM_ok hM0.ok) (feM_idle hr7 hM0.cnt)
    have iEv : ∀ (j x : Int), j.toNat ≠ 7 → ApInv x2 (800000 + i + 1) (m.evM j x) := fun j x hj => hM0.same (evM_on' hM0.on) evM_n ((evM_ok hM0.ok).mono (by omega)) (evM_other (fun e => hj e.symm))
    have iCr : ∀ (q : Nat → Int) (kn : Nat), ApInv x2 (800000 + i + 1) (m.crM q kn) := fun q kn => hM0.same crM_on rfl ((crM_ok hM0.ok).mono (by omega)) (crM_idle hM0.cnt)
    subst hmm
    refine brT b0 (brQ (fun hl => ?_) (fun hl => ?_))
    · refine brT q1 (brQ (fun k0 => ?_) (fun k0 => brQ (fun k1 => ?_) (fun k1 => brQ (fun k2 => ?_) (fun k2 => brQ (fun k3 => ?_) (fun k3 => brQ (fun k4 => ?_) (fun k4 => by exfalso; omega))))))
      · exact brT d0 (brT ok0 (go _ _ .no (iSt 8 _ _ (by decide)) rfl))
      · exact brT a0 (brT ok0 (go _ _ .no (iFl _ 8 (by decide)) rfl))
      · exact brT a0 (brT ok0 (go _ _ .no (iFe _) rfl))
      · exact brT e0 (brT ok0 (go _ _ .no (iEv 8 _ (by decide)) rfl))
      · exact brT ok0 (brT (pdec_yes hkeep) (go _ _ .no (iCr _ _) rfl))
    · have hl7 : (r_kind_0 (g4 (x0 + i) 2) 64).toNat ≠ 7 := by omega
      refine brT q1 (brQ (fun k0 => ?_) (fun k0 => brQ (fun k1 => ?_) (fun k1 => brQ (fun k2 => ?_) (fun k2 => brQ (fun k3 => ?_) (fun k3 => brQ (fun k4 => ?_) (fun k4 => by exfalso; omega))))))
      · exact brT d0 (brT ok0 (go _ _ .no (iSt _ _ _ hl7) rfl))
      · exact brT a0 (brT ok0 (go _ _ .no (iFl _ _ hl7) rfl))
      · exact brT a0 (brT ok0 (go _ _ .no (iFe _) rfl))
      · exact brT e0 (brT ok0 (go _ _ .no (iEv _ _ hl7) rfl))
      · exact brT ok0 (brT (pdec_yes hkeep) (go _ _ .no (iCr _ _) rfl))
  all_goals
    subst hr
    exact out_ (by simp) rfl (AtsEq.refl _)
end Go.Proofs.Ythgagehgiooklaa.G
end

/-
  What functions of the seat compute, printed by a program from the explorer.
-/
section
namespace Go.Proofs.Ythgagehgiooklaa.G
open Go Go.AM Go.Proofs
theorem f_NvmApart_9 : LoopF Try.prog 2 (loopAt Try.f8 9) (loopFn 2 lsh_NvmApart_9 xs_NvmApart_9 OL_NvmApart_9) :=
  loop_sat (sy := y_NvmApart_9) (fuel := 100) (Lp := noLoops) o_S13 mixed (loopsOK_at (noLoops_ok _) 9) rfl eB_NvmApart_9 rd_NvmApart_9
noncomputable def Lp_NvmApart_9 : Loops := Loops.set noLoops 9 (loopFn 2 lsh_NvmApart_9 xs_NvmApart_9 OL_NvmApart_9)
theorem lk_NvmApart_9 : LoopsFn Try.prog 2 Lp_NvmApart_9 Try.f8 := loopsFn_set (noLoops_ok _) (by kernel_rfl) f_NvmApart_9

/-! ### NvmApart -/

noncomputable def ish_NvmApart : FSh := ⟨[.v false [.vw 0 6], .v false [.k (.n .u64)]], [.nrows [.n .i64, .n .i64, .n .i64, .n .i64, .n .u64, .n .i64] 5 [.n .i64] 1 false false, .no]⟩
noncomputable def osh_NvmApart : FSh := ⟨[.v false [.k .b]], [.no, .no]⟩
noncomputable def T_NvmApart (x0 : Int) (n1 : Nat) (g1 : Nat → Nat → Int) (h1 : Nat → Nat → Int) : Tr (List At) :=
 .br 0 (Bool.false)
 (.ok [(.b (Bool.false))])
 (.br 0 (Go.Proofs.Ythgagehgiooklaa.G.pdec (Go.Proofs.Ythgagehgiooklaa.G.Mem.Ok (900000 : Int) (Go.Proofs.Ythgagehgiooklaa.G.newM (64 : Nat))))
 (.br 0 (Go.Proofs.Ythgagehgiooklaa.G.pdec (Go.Proofs.Ythgagehgiooklaa.G.Mem.Ok (900000 : Int) (Go.Proofs.Ythgagehgiooklaa.G.Mem.stM (Go.Proofs.Ythgagehgiooklaa.G.newM (64 : Nat)) (7 : Int) (3 : Int) x0)))
 (.br 0 (Go.Proofs.Ythgagehgiooklaa.G.pdec (Go.Proofs.Ythgagehgiooklaa.G.Mem.Ok (900000 : Int) (Go.Proofs.Ythgagehgiooklaa.G.Mem.flM (Go.Proofs.Ythgagehgiooklaa.G.Mem.stM (Go.Proofs.Ythgagehgiooklaa.G.newM (64 : Nat)) (7 : Int) (3 : Int) x0) (0 : Int) (7 : Int))))
 (.br 0 (Go.Proofs.Ythgagehgiooklaa.G.pdec (Go.Proofs.Ythgagehgiooklaa.G.preAp n1 x0 (0 : Int) (fun (i : Nat) => g1 ((0 : Nat) + i)) (fun (i : Nat) => h1 ((0 : Nat) + i)) (Go.Proofs.Ythgagehgiooklaa.G.Mem.feM (Go.Proofs.Ythgagehgiooklaa.G.Mem.flM (Go.Proofs.Ythgagehgiooklaa.G.Mem.stM (Go.Proofs.Ythgagehgiooklaa.G.newM (64 : Nat)) (7 : Int) (3 : Int) x0) (0 : Int) (7 : Int)) (0 : Int))))
 (.ok [(.b (Bool.true))])
 (.no))
 (.no))
 (.no))
 (.no))
noncomputable def y_NvmApart : Nat → Option Nat := (syOf3 [] [] [])
noncomputable def TL_NvmApart (l : List At) : Tr (List At) := T_NvmApart (aI l 0) (aRn l 1) (aRg l 1) (aMh l 1 5 1)
theorem e_NvmApart (l : List At) : (call Try.prog Γ_S13 y_NvmApart Lp_NvmApart_9 100 Try.f8 (mkV ish_NvmApart l) (mkH ish_NvmApart l)).bind (leafO ish_NvmApart.hp.length ⟨[.v false [.k .b]], List.replicate ish_NvmApart.hp.length .no⟩) = TL_NvmApart l := by kernel_rfl

end Go.Proofs.Ythgagehgiooklaa.G
end

/-
  The plain law of NvmApart.
-/
section
namespace Go.Proofs.Ythgagehgiooklaa.G
open Go Go.AM Go.Proofs

theorem ap_start (v : Int) : ApInv v 3 ((((newM 64).stM 7 3 v).flM 0 7).feM 0) := by
  have o0 := newM_on 64
  have b1 : (newM 64).bad 7 3 = false := bad_of ⟨by decide, by show (7 : Int) < (64 : Nat); decide, by decide, by decide⟩
  have k0 : (newM 64).Ok 0 := newM_ok (by decide)
  have k1 := stM_ok (i := 7) (w := 3) (v := v) k0 (by decide)
  have k2 := flM_ok (c := 0) (i := 7) k1
  have k3 := feM_ok (c := 0) k2
  have o1 : ((newM 64).stM 7 3 v).on := stM_on' o0
  have e1 := stM_on (v := v) o0 b1
  have b2 : ((newM 64).stM 7 3 v).bad 7 0 = false := bad_of ⟨by decide, by rw [stM_n]; show (7 : Int) < (64 : Nat); decide, by decide, by decide⟩
  have e2 := flM_on o1 b2
  have o2 : (((newM 64).stM 7 3 v).flM 0 7).on := flM_on' o1
  have e3 := feM_on o2 (corB_of (c := 0) (by decide))
  have n3 : ((((newM 64).stM 7 3 v).flM 0 7).feM 0).n = 64 := by rw [feM_n, flM_n, stM_n]; rfl
  have o3 := feM_on' (c := 0) o2
  generalize hm2 : ((newM 64).stM 7 3 v).flM 0 7 = m2 at *
  have r2 : m2.g 7 = flR (stR (fun _ => 0) 3 v) 0 := by rw [e2, e1]; rfl
  have n2 : m2.n = 64 := by rw [e2, e1]; rfl
  have h16 : m2.g 7 16 = 1 := by rw [r2]; rfl
  have h17 : m2.g 7 17 = 1 := by rw [r2]; rfl
  have eg : (m2.feM 0).g 7 = rowS (m2.g 7) (m2.h 7) 1 := by
    rw [e3]
    show feG m2.n m2.g m2.h 17 0 7 = _
    unfold feG
    rw [h17, if_pos ⟨Nat.zero_le _, by omega, by decide⟩]
    rfl
  refine ⟨o3, n3, k3.mono (by omega), by rw [eg, rowS16, h16]; rfl, fun c hc => ?_⟩
  rw [eg, rowS_now hc, r2, flR_lo (by omega)]
  unfold stR
  rw [if_neg (by omega)]

theorem ops_wf {n1 : Nat} {g1 h1 : Nat → Nat → Int} (w : ∀ (i c : Nat) (k : SK), i < n1 → [SK.n .i64, SK.n .i64, SK.n .i64, SK.n .i64, SK.n .u64][c]? = some k → wfS k (g1 i c))
    (wm : ∀ i, i < n1 → 0 ≤ g1 i 5 ∧ g1 i 5 ≤ maxLen ∧ ∀ (j c : Nat) k, j < (g1 i 5).toNat → [SK.n .i64][c]? = some k → wfS k (h1 i (j * 1 + c))) :
    (∀ i c, i < n1 → c < 4 → -9223372036854775808 ≤ g1 (0 + i) c ∧ g1 (0 + i) c ≤ 9223372036854775807) ∧ ∀ i, i < n1 → KeepOk (fun j => h1 (0 + i) ((0 + j) * 1 + 0)) (g1 (0 + i) 5).toNat := by
  refine ⟨fun i c hi hc => ?_, fun i hi j hj => ?_⟩
  · rw [Nat.zero_add]
    match c, hc with
    | 0, _ => exact w i 0 (.n .i64) hi rfl
    | 1, _ => exact w i 1 (.n .i64) hi rfl
    | 2, _ => exact w i 2 (.n .i64) hi rfl
    | 3, _ => exact w i 3 (.n .i64) hi rfl
  · have := (wm i hi).2.2 j 0 (.n .i64) (by rw [Nat.zero_add] at hj; exact hj) rfl
    show -9223372036854775808 ≤ h1 (0 + i) ((0 + j) * 1 + 0) ∧ h1 (0 + i) ((0 + j) * 1 + 0) ≤ 9223372036854775807
    rw [Nat.zero_add, Nat.zero_add]
    exact this

theorem vc_NvmApart (x0 : Int) (n1 : Nat) (g1 h1 : Nat → Nat → Int) (_x0l : 0 ≤ x0) (_x0h : x0 ≤ 18446744073709551615) (_b : n1 ≤ maxLen) (w : ∀ (i c : Nat) (k : SK), i < n1 → [SK.n .i64, SK.n .i64, SK.n .i64, SK.n .i64, SK.n .u64][c]? = some k → wfS k (g1 i c))
    (wm : ∀ i, i < n1 → 0 ≤ g1 i 5 ∧ g1 i 5 ≤ maxLen ∧ ∀ (j c : Nat) k, j < (g1 i 5).toNat → [SK.n .i64][c]? = some k → wfS k (h1 i (j * 1 + c))) : (T_NvmApart x0 n1 g1 h1).sat fun r => r = [.b true] := by
  have k0 : (newM 64).Ok 0 := newM_ok (by decide)
  have k1 := stM_ok (i := 7) (w := 3) (v := x0) k0 (by decide)
  have k2 := flM_ok (c := 0) (i := 7) k1
  obtain ⟨w1, w2⟩ := ops_wf w wm
  have inv := ap_start x0
  unfold T_NvmApart
  exact brF rfl (brT (pdec_yes (k0.mono (by omega))) (brT (pdec_yes (k1.mono (by omega))) (brT (pdec_yes (k2.mono (by omega))) (brT (pdec_yes ⟨Int.le_refl _, by omega, ⟨inv.on, inv.n, inv.ok.mono (by omega), inv.cnt, inv.now⟩, w1, w2⟩) (Tr.sat_ok.2 rfl)))))
end Go.Proofs.Ythgagehgiooklaa.G
end

/-
  The plain law of NvmLast.
-/
section
namespace Go.Proofs.Ythgagehgiooklaa.G
open Go Go.AM Go.Proofs

theorem la_all {G : Nat → Nat → Int} : ∀ (m i : Nat) (M : Mem) (W : Nat → Nat → Int) (K : Int), LaInv K M W → K + m ≤ 900000 → LaInv (K + m) (laM G m i M) (laW G m i M W)
  | 0, _, _, _, _, h, _ => ⟨h.on, h.n, h.ok.mono (by omega), h.now⟩
  | m + 1, i, M, W, K, h, hK => by
    rw [laM, laW]
    have := la_all (G := G) m (i + 1) _ _ (K + 1) (la_step (r := G i) h (by omega)) (by omega)
    exact ⟨this.on, this.n, this.ok.mono (by omega), this.now⟩

theorem vc_NvmLast (n0 : Nat) (g0 h0 : Nat → Nat → Int) (_b : n0 ≤ maxLen) (w : ∀ (i c : Nat) (k : SK), i < n0 → [SK.n .i64, SK.n .i64, SK.n .i64, SK.n .i64, SK.n .u64][c]? = some k → wfS k (g0 i c))
    (wm : ∀ i, i < n0 → 0 ≤ g0 i 5 ∧ g0 i 5 ≤ maxLen ∧ ∀ (j c : Nat) k, j < (g0 i 5).toNat → [SK.n .i64][c]? = some k → wfS k (h0 i (j * 1 + c))) :
    (T_NvmLast n0 g0 h0).sat fun r => r = [.b true] := by
  obtain ⟨v1, _⟩ := ops_wf w wm
  have inv0 : LaInv 0 (newM 64) (fun _ _ => 0) := ⟨newM_on 64, rfl, newM_ok (by decide), fun _ _ _ _ => rfl⟩
  have inv := la_all (G := fun i => g0 (0 + i)) (min n0 100 - 0) 0 _ _ 0 inv0 (by omega)
  unfold T_NvmLast
  exact brF rfl (brT (pdec_yes ⟨Int.le_refl _, by omega, by omega, rfl, ⟨inv0.on, inv0.n, inv0.ok.mono (by omega), inv0.now⟩, v1⟩) (brT (pdec_yes ⟨Int.le_refl _, rfl, fun i _ hi => ⟨ldC_on inv.on ⟨by omega, by rw [inv.n]; omega⟩, fun c hc => (ldW_on inv.on ⟨by omega, by rw [inv.n]; omega⟩).trans (inv.now i c hi hc)⟩⟩) (Tr.sat_ok.2 rfl)))
end Go.Proofs.Ythgagehgiooklaa.G
end
