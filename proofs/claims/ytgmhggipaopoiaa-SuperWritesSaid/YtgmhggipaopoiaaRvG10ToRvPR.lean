/-
  What functions of the seat compute, printed by a program from the explorer.
-/
import Derived.Test.YtgmhggipaopoiaaT1ToRvO6
import Derived.KernelRfl
section
namespace Go.Proofs.Ytgmhggipaopoiaa.G
open Go Go.AM Go.Proofs
theorem f_rflush_6 : LoopF Try.prog 4 (loopAt Try.f43 6) (loopFn 4 lsh_rflush_6 xs_rflush_6 OL_rflush_6) :=
  loop_sat (sy := y_rflush_6) (fuel := 100) (Lp := noLoops) o_RS2 mixed (loopsOK_at (noLoops_ok _) 6) rfl eB_rflush_6 rd_rflush_6
noncomputable def Lp_rflush_6 : Loops := Loops.set noLoops 6 (loopFn 4 lsh_rflush_6 xs_rflush_6 OL_rflush_6)
theorem lk_rflush_6 : LoopsFn Try.prog 4 Lp_rflush_6 Try.f43 := loopsFn_set (noLoops_ok _) (by kernel_rfl) f_rflush_6

/-! ### rflush -/

noncomputable def ish_rflush : FSh := ⟨[.v false [.p 0 0], .v false [.k (.n .i64)], .v false [.k (.n .i64)]], [.cells [.sw 1 8, .sw 2 1, .k .b, .k (.n .i64), .k (.n .i64)], .rows [.n .u64, .n .u64, .n .u64, .n .u64, .n .u64, .n .u64, .n .u64, .n .u64] true, .nrows [.n .i64] 0 [.n .i64, .n .u64, .b, .b, .b, .b, .b, .b, .b, .b] 3 false true, .no]⟩
noncomputable def osh_rflush : FSh := ⟨[.v false [.k (.n .i64)]], [.cells [.sw 1 8, .sw 2 1, .k .b, .k (.n .i64), .k (.n .i64)], .rows [.n .u64, .n .u64, .n .u64, .n .u64, .n .u64, .n .u64, .n .u64, .n .u64] true, .nrows [.n .i64] 0 [.n .i64, .n .u64, .b, .b, .b, .b, .b, .b, .b, .b] 3 false true, .no]⟩
noncomputable def T_rflush (x0 : Int) (x1 : Int) (x2 : Bool) (x3 : Int) (x4 : Int) (n5 : Nat) (g5 : Nat → Nat → Int) (n6 : Nat) (g6 : Nat → Nat → Int) (h6 : Nat → Nat → Int) : Tr (List At) :=
 .br 11 (Decidable.decide (x0 < (0 : Int)))
 (.ok [(.i ((1 : Int))), (.b (x2)), (.i (x3)), (.i (x4)), (.r (n5) (g5)), (.q (n6) (g6) ((0 : Nat)) ((10 : Nat)) (h6))])
 (.br 15 (Decidable.decide (x0 > (7 : Int)))
 (.ok [(.i ((1 : Int))), (.b (x2)), (.i (x3)), (.i (x4)), (.r (n5) (g5)), (.q (n6) (g6) ((0 : Nat)) ((10 : Nat)) (h6))])
 (.br 20 (!RMem.is { n := n5, S := g5, k := n6, G := g6, L := h6, off := x2, left := x3, count := x4 } x1)
 (.ok [(.i ((1 : Int))), (.b (x2)), (.i (x3)), (.i (x4)), (.r (n5) (g5)), (.q (n6) (g6) ((0 : Nat)) ((10 : Nat)) (h6))])
 (.br 0 (pdec (stepOk x3 x4))
 (.br 24 (rcodI x2 x3 == (0 : Int))
 (.br 0 (pdec (rpF x0 x1 (0 : Int) n6 g6))
 (.ok [(.i (rcodI x2 x3)), (.b (rpoB x2 x3)), (.i (rleftI x2 x3)), (.i (rcntI x2 x3 x4)), (.r (n5) (g5)), (.q (n6) (g6) ((0 : Nat)) ((10 : Nat)) (updR h6 (Int.toNat x1) (rflF (h6 (Int.toNat x1)) (Int.toNat x0) (0 : Nat) (Int.toNat (g6 (Int.toNat x1) (0 : Nat) - (0 : Int))))))])
 (.no))
 (.ok [(.i (rcodI x2 x3)), (.b (rpoB x2 x3)), (.i (rleftI x2 x3)), (.i (rcntI x2 x3 x4)), (.r (n5) (g5)), (.q (n6) (g6) ((0 : Nat)) ((10 : Nat)) (h6))]))
 (.no))))
noncomputable def y_rflush : Nat → Option Nat := (syOf3 [11, 15, 20, 24] [] [])
noncomputable def TL_rflush (l : List At) : Tr (List At) := T_rflush (aI l 0) (aI l 1) (aB l 2) (aI l 3) (aI l 4) (aRn l 5) (aRg l 5) (aRn l 6) (aRg l 6) (aMh l 6 0 10)
theorem e_rflush (l : List At) : (call Try.prog Γ_RS2 y_rflush Lp_rflush_6 100 Try.f43 (mkV ish_rflush l) (mkH ish_rflush l)).bind (leafO 4 osh_rflush) = TL_rflush l := by kernel_rfl
end Go.Proofs.Ytgmhggipaopoiaa.G
end

/-
  What functions of the seat compute, printed by a program from the explorer.
-/
section
namespace Go.Proofs.Ytgmhggipaopoiaa.G
open Go Go.AM Go.Proofs
/-! ### the loop at 11 of rfence -/

noncomputable def lsh_rfence_11 : FSh := ⟨[.v false [.p 0 0], .v false [.k (.n .i64)], .any, .any, .any, .any, .v false [.k (.n .i64)], .v false [.k (.n .i64)], .v false [.k (.n .i64)], .any, .any, .any, .any, .any, .any, .any, .any, .any, .any, .any, .any, .any, .any, .any, .any, .any, .any, .any, .any, .any, .any, .any, .any, .any, .any, .any, .any, .any, .any, .any, .any, .any, .any, .any, .any, .any, .any, .any, .any, .any, .any, .any, .any, .any, .any, .any, .any, .any, .any, .any, .any, .any], [.cells [.sw 1 8, .sw 2 1, .k .b, .k (.n .i64), .k (.n .i64)], .rows [.n .u64, .n .u64, .n .u64, .n .u64, .n .u64, .n .u64, .n .u64, .n .u64] true, .nrows [.n .i64] 0 [.n .i64, .n .u64, .b, .b, .b, .b, .b, .b, .b, .b] 4 false true, .no, .no]⟩
noncomputable def xsh_rfence_11_0 : FSh := ⟨[.v false [.p 0 0], .v false [.k (.n .i64)], .any, .any, .any, .any, .v false [.k (.n .i64)], .v false [.k (.n .i64)], .any, .any, .any, .any, .any, .any, .any, .any, .any, .any, .any, .any, .any, .any, .any, .any, .any, .any, .any, .any, .any, .any, .any, .any, .any, .any, .any, .any, .any, .any, .any, .any, .any, .any, .any, .any, .any, .any, .any, .any, .any, .any, .any, .any, .any, .any, .any, .any, .any, .any, .any, .any, .any, .any], [.cells [.sw 1 8, .sw 2 1, .k .b, .k (.n .i64), .k (.n .i64)], .rows [.n .u64, .n .u64, .n .u64, .n .u64, .n .u64, .n .u64, .n .u64, .n .u64] true, .nrows [.n .i64] 0 [.n .i64, .n .u64, .b, .b, .b, .b, .b, .b, .b, .b] 4 false true, .no, .no]⟩
noncomputable def xs_rfence_11 : Exs := fun e => match e with
  | .normal => some lsh_rfence_11
  | .exit n => (match Nat.beq n 2 with | true => some xsh_rfence_11_0 | false => none)
  | .ret => none
noncomputable def B_rfence_11 (x0 : Int) (x1 : Int) (x2 : Int) (x3 : Int) (x4 : Bool) (x5 : Int) (x6 : Int) (n7 : Nat) (g7 : Nat → Nat → Int) (n8 : Nat) (g8 : Nat → Nat → Int) (h8 : Nat → Nat → Int) : Tr (Ex × List At) :=
 .br 35 (Go.AM.within x1 n8)
 (.br 38 (Decidable.decide (x3 < (↑(Int.toNat (g8 (Int.toNat x1) (0 : Nat))) : Int)))
 (.br 46 (Go.AM.within x1 n8)
 (.br 50 (Go.AM.within x3 (Int.toNat (g8 (Int.toNat x1) (0 : Nat))))
 (.br 200052 (Go.AM.within x0 (8 : Nat))
 (.br 53 (h8 (Int.toNat x1) (Int.toNat x3 * (10 : Nat) + ((2 : Nat) + Int.toNat x0 * (1 : Nat))) != (0 : Int))
 (.ok (.normal, [(.i (x0)), (.i (x1)), (.i (Go.IntKind.wrap Go.IntKind.i64 (x3 + (1 : Int)))), (.i (Go.IntKind.wrap Go.IntKind.i64 (x3 + (1 : Int)))), (.b (x4)), (.i (x5)), (.i (x6)), (.r (n7) (g7)), (.q (n8) (g8) ((0 : Nat)) ((10 : Nat)) (h8))]))
 (.ok (.normal, [(.i (x0)), (.i (x1)), (.i (x2)), (.i (Go.IntKind.wrap Go.IntKind.i64 (x3 + (1 : Int)))), (.b (x4)), (.i (x5)), (.i (x6)), (.r (n7) (g7)), (.q (n8) (g8) ((0 : Nat)) ((10 : Nat)) (h8))])))
 (.no))
 (.no))
 (.no))
 (.ok (.exit 2, [(.i (x0)), (.i (x1)), (.i (x2)), (.b (x4)), (.i (x5)), (.i (x6)), (.r (n7) (g7)), (.q (n8) (g8) ((0 : Nat)) ((10 : Nat)) (h8))])))
 (.no)
noncomputable def y_rfence_11 : Nat → Option Nat := (syOf3 [35, 38, 46, 50, 53] [] [52])
noncomputable def BL_rfence_11 (l : List At) : Tr (Ex × List At) := B_rfence_11 (aI l 0) (aI l 1) (aI l 2) (aI l 3) (aB l 4) (aI l 5) (aI l 6) (aRn l 7) (aRg l 7) (aRn l 8) (aRg l 8) (aMh l 8 0 10)
theorem eB_rfence_11 (l : List At) : (exec Try.prog Γ_RS2 y_rfence_11 noLoops 100 (loopAt Try.f44 11) ⟨mkV lsh_rfence_11 l, mkH lsh_rfence_11 l⟩).bind (leafL 4 xs_rfence_11) = BL_rfence_11 l := by kernel_rfl
/- by hand: O_rfence_11 (x0 : Int) (x1 : Int) (x2 : Int) (x3 : Int) (x4 : Bool) (x5 : Int) (x6 : Int) (n7 : Nat) (g7 : Nat → Nat → Int) (n8 : Nat) (g8 : Nat → Nat → Int) (h8 : Nat → Nat → Int) : Tr (Ex × List At); OL_rfence_11 (l) := O_rfence_11 (aI l 0) (aI l 1) (aI l 2) (aI l 3) (aB l 4) (aI l 5) (aI l 6) (aRn l 7) (aRg l 7) (aRn l 8) (aRg l 8) (aMh l 8 0 10); μ_rfence_11 : List At → Nat; rd_rfence_11 : ∀ l r, (OL_rfence_11 l).val = some r → RoundA BL_rfence_11 OL_rfence_11 μ_rfence_11 l r -/

end Go.Proofs.Ytgmhggipaopoiaa.G
end

/-
  The inner loop of the reference's Fence: how many stores a core has flushed.
-/
section
namespace Go.Proofs.Ytgmhggipaopoiaa.G
open Go Go.AM Go.Proofs

def rlastG (hr : Nat → Int) (core : Nat) : (a m : Nat) → Int → Int
  | _, 0, cur => cur
  | a, m + 1, cur => rlastG hr core (a + 1) m (if hr (a * 10 + (2 + core)) ≠ 0 then (a : Int) + 1 else cur)
theorem rlastG_succ {hr : Nat → Int} {core : Nat} : ∀ (m a : Nat) (cur : Int), rlastG hr core a (m + 1) cur = if hr ((a + m) * 10 + (2 + core)) ≠ 0 then ((a + m : Nat) : Int) + 1 else rlastG hr core a m cur
  | 0, a, cur => rfl
  | m + 1, a, cur => by
    rw [rlastG, rlastG_succ m (a + 1), show a + 1 + m = a + (m + 1) by omega]
    rfl
theorem rlastG_all (hr : Nat → Int) (core : Nat) : ∀ m, rlastG hr core 0 m 0 = (lastF hr core m : Int)
  | 0 => rfl
  | m + 1 => by
    rw [rlastG_succ, lastF, Nat.zero_add, rlastG_all hr core m]
    split <;> simp_all

def rpI (x0 x1 x3 : Int) (n : Nat) (g : Nat → Nat → Int) : Prop := (0 ≤ x0 ∧ x0 < 8) ∧ (0 ≤ x1 ∧ x1 < n) ∧ 0 ≤ x3 ∧ x3 ≤ g x1.toNat 0 ∧ g x1.toNat 0 ≤ 1000000

noncomputable def O_rfence_11 (x0 x1 x2 x3 : Int) (x4 : Bool) (x5 x6 : Int) (n7 : Nat) (g7 : Nat → Nat → Int) (n8 : Nat) (g8 h8 : Nat → Nat → Int) : Tr (Ex × List At) :=
  .br 0 (pdec (rpI x0 x1 x3 n8 g8)) (.ok (.exit 2, [.i x0, .i x1, .i (rlastG (h8 x1.toNat) x0.toNat x3.toNat (g8 x1.toNat 0 - x3).toNat x2), .b x4, .i x5, .i x6, .r n7 g7, .q n8 g8 0 10 h8])) .no
noncomputable def OL_rfence_11 (l : List At) : Tr (Ex × List At) := O_rfence_11 (aI l 0) (aI l 1) (aI l 2) (aI l 3) (aB l 4) (aI l 5) (aI l 6) (aRn l 7) (aRg l 7) (aRn l 8) (aRg l 8) (aMh l 8 0 10)
def μ_rfence_11 (l : List At) : Nat := (aRg l 8 (aI l 1).toNat 0 - aI l 3).toNat

theorem rd_rfence_11 : ∀ l r, (OL_rfence_11 l).val = some r → RoundS BL_rfence_11 OL_rfence_11 μ_rfence_11 l r := by
  intro l r h
  obtain ⟨hc, h⟩ := guard_val h
  obtain ⟨⟨c0, c1⟩, ⟨c2, c3⟩, c4, c5, c6⟩ := of_pdec hc
  unfold RoundS BL_rfence_11 B_rfence_11
  generalize hx0 : aI l 0 = x0 at *
  generalize hx1 : aI l 1 = x1 at *
  generalize hx2 : aI l 2 = x2 at *
  generalize hx3 : aI l 3 = x3 at *
  generalize hn : aRn l 8 = n at *
  generalize hg : aRg l 8 = g at *
  generalize hh : aMh l 8 0 10 = hm at *
  refine brW (fun _ => ?_) (fun hh => by exfalso; omega)
  rw [Int.toNat_of_nonneg (a := g x1.toNat 0) (by omega)]
  refine brD (fun h1 => ?_) (fun h1 => ?_)
  · have hw : IntKind.i64.wrap (x3 + 1) = x3 + 1 := wrap_i64 (by omega) (by omega)
    have hμ : (g x1.toNat 0 - (x3 + 1)).toNat < μ_rfence_11 l := by unfold μ_rfence_11; rw [hg, hx1, hx3]; omega
    have hq : rpI x0 x1 (x3 + 1) n g := ⟨⟨c0, c1⟩, ⟨c2, c3⟩, by omega, by omega, c6⟩
    have e1 : (g x1.toNat 0 - x3).toNat = (g x1.toNat 0 - (x3 + 1)).toNat + 1 := by omega
    have e3 : (x3 + 1).toNat = x3.toNat + 1 := by omega
    have e4 : ((x3.toNat : Nat) : Int) = x3 := by omega
    rw [e1, rlastG, ← e3, e4] at h
    refine brW (fun _ => brT (by simp [within]; omega) (brT (by simp [within]; omega) ?_)) (fun hh => by exfalso; omega)
    rw [hw, Nat.mul_one]
    refine brNE (fun h2 => ?_) (fun h2 => ?_)
    · rw [if_pos h2] at h
      exact on_ _ r (AtsEq.refl _) hμ ((br_t (g := 0) (pdec_yes hq)).trans h) rfl (AtsEq.refl _)
    · rw [if_neg (fun hh => hh h2)] at h
      exact on_ _ r (AtsEq.refl _) hμ ((br_t (g := 0) (pdec_yes hq)).trans h) rfl (AtsEq.refl _)
  · have e : (g x1.toNat 0 - x3).toNat = 0 := by omega
    rw [e, rlastG] at h
    have hr := val_ok h
    subst hr
    exact out_ (by simp) rfl (AtsEq.refl _)
end Go.Proofs.Ytgmhggipaopoiaa.G
end

/-
  What functions of the seat compute, printed by a program from the explorer.
-/
section
namespace Go.Proofs.Ytgmhggipaopoiaa.G
open Go Go.AM Go.Proofs
theorem f_rfence_11 : LoopF Try.prog 4 (loopAt Try.f44 11) (loopFn 4 lsh_rfence_11 xs_rfence_11 OL_rfence_11) :=
  loop_sat (sy := y_rfence_11) (fuel := 100) (Lp := noLoops) o_RS2 mixed (loopsOK_at (noLoops_ok _) 11) rfl eB_rfence_11 rd_rfence_11
noncomputable def Lp_rfence_11 : Loops := Loops.set noLoops 11 (loopFn 4 lsh_rfence_11 xs_rfence_11 OL_rfence_11)
theorem lk_rfence_11 : LoopsFn Try.prog 4 Lp_rfence_11 Try.f44 := loopsFn_set (noLoops_ok _) (by kernel_rfl) f_rfence_11

/-! ### the loop at 7 of rfence -/

noncomputable def lsh_rfence_7 : FSh := ⟨[.v false [.p 0 0], .v false [.k (.n .i64)], .any, .any, .any, .any, .v false [.k (.n .i64)], .any, .any, .any, .any, .any, .any, .any, .any, .any, .any, .any, .any, .any, .any, .any, .any, .any, .any, .any, .any, .any, .any, .any, .any, .any, .any, .any, .any, .any, .any, .any, .any, .any, .any, .any, .any, .any, .any, .any, .any, .any, .any, .any, .any, .any, .any, .any, .any, .any, .any, .any, .any, .any, .any, .any], [.cells [.sw 1 8, .sw 2 1, .k .b, .k (.n .i64), .k (.n .i64)], .rows [.n .u64, .n .u64, .n .u64, .n .u64, .n .u64, .n .u64, .n .u64, .n .u64] true, .nrows [.n .i64] 0 [.n .i64, .n .u64, .b, .b, .b, .b, .b, .b, .b, .b] 4 false true, .no, .no]⟩
noncomputable def xsh_rfence_7_0 : FSh := ⟨[.any, .any, .any, .any, .any, .any, .any, .any, .any, .any, .any, .any, .any, .any, .any, .any, .any, .any, .any, .any, .any, .any, .any, .any, .any, .any, .any, .any, .any, .any, .any, .any, .any, .any, .any, .any, .any, .any, .any, .any, .any, .any, .any, .any, .any, .any, .any, .any, .any, .any, .any, .any, .any, .any, .any, .any, .any, .any, .any, .any, .any, .any], [.cells [.sw 1 8, .sw 2 1, .k .b, .k (.n .i64), .k (.n .i64)], .rows [.n .u64, .n .u64, .n .u64, .n .u64, .n .u64, .n .u64, .n .u64, .n .u64] true, .nrows [.n .i64] 0 [.n .i64, .n .u64, .b, .b, .b, .b, .b, .b, .b, .b] 4 false true, .no, .no]⟩
noncomputable def xs_rfence_7 : Exs := fun e => match e with
  | .normal => some lsh_rfence_7
  | .exit n => (match Nat.beq n 0 with | true => some xsh_rfence_7_0 | false => none)
  | .ret => none
noncomputable def rfence_7_c17 (x0 : Int) (x1 : Int) (g6 : Nat → Nat → Int) (h6 : Nat → Nat → Int) : Bool := Decidable.decide (rlastG (h6 (Int.toNat x1)) (Int.toNat x0) (0 : Nat) (Int.toNat (g6 (Int.toNat x1) (0 : Nat) - (0 : Int))) (0 : Int) > (0 : Int))
noncomputable def B_rfence_7 (x0 : Int) (x1 : Int) (x2 : Bool) (x3 : Int) (x4 : Int) (n5 : Nat) (g5 : Nat → Nat → Int) (n6 : Nat) (g6 : Nat → Nat → Int) (h6 : Nat → Nat → Int) : Tr (Ex × List At) :=
 .br 26 (Decidable.decide (x1 < (↑n5 : Int)))
 (.br 0 (pdec (rpI x0 x1 (0 : Int) n6 g6))
 (.br 57 ((rfence_7_c17 x0 x1 g6 h6))
 (.br 0 (pdec (RMem.hasOk { n := n5, S := g5, k := n6, G := g6, L := h6, off := x2, left := x3, count := x4 } x1 (rlastG (h6 (Int.toNat x1)) (Int.toNat x0) (0 : Nat) (Int.toNat (g6 (Int.toNat x1) (0 : Nat) - (0 : Int))) (0 : Int))))
 (.ok (.normal, [(.i (x0)), (.i (Go.IntKind.wrap Go.IntKind.i64 (x1 + (1 : Int)))), (.b ((RMem.suM { n := n5, S := g5, k := n6, G := g6, L := h6, off := x2, left := x3, count := x4 } x1 (rlastG (h6 (Int.toNat x1)) (Int.toNat x0) (0 : Nat) (Int.toNat (g6 (Int.toNat x1) (0 : Nat) - (0 : Int))) (0 : Int))).off)), (.i ((RMem.suM { n := n5, S := g5, k := n6, G := g6, L := h6, off := x2, left := x3, count := x4 } x1 (rlastG (h6 (Int.toNat x1)) (Int.toNat x0) (0 : Nat) (Int.toNat (g6 (Int.toNat x1) (0 : Nat) - (0 : Int))) (0 : Int))).left)), (.i ((RMem.suM { n := n5, S := g5, k := n6, G := g6, L := h6, off := x2, left := x3, count := x4 } x1 (rlastG (h6 (Int.toNat x1)) (Int.toNat x0) (0 : Nat) (Int.toNat (g6 (Int.toNat x1) (0 : Nat) - (0 : Int))) (0 : Int))).count)), (.r ((RMem.suM { n := n5, S := g5, k := n6, G := g6, L := h6, off := x2, left := x3, count := x4 } x1 (rlastG (h6 (Int.toNat x1)) (Int.toNat x0) (0 : Nat) (Int.toNat (g6 (Int.toNat x1) (0 : Nat) - (0 : Int))) (0 : Int))).n) ((RMem.suM { n := n5, S := g5, k := n6, G := g6, L := h6, off := x2, left := x3, count := x4 } x1 (rlastG (h6 (Int.toNat x1)) (Int.toNat x0) (0 : Nat) (Int.toNat (g6 (Int.toNat x1) (0 : Nat) - (0 : Int))) (0 : Int))).S)), (.q ((RMem.suM { n := n5, S := g5, k := n6, G := g6, L := h6, off := x2, left := x3, count := x4 } x1 (rlastG (h6 (Int.toNat x1)) (Int.toNat x0) (0 : Nat) (Int.toNat (g6 (Int.toNat x1) (0 : Nat) - (0 : Int))) (0 : Int))).k) ((RMem.suM { n := n5, S := g5, k := n6, G := g6, L := h6, off := x2, left := x3, count := x4 } x1 (rlastG (h6 (Int.toNat x1)) (Int.toNat x0) (0 : Nat) (Int.toNat (g6 (Int.toNat x1) (0 : Nat) - (0 : Int))) (0 : Int))).G) ((0 : Nat)) ((10 : Nat)) ((RMem.suM { n := n5, S := g5, k := n6, G := g6, L := h6, off := x2, left := x3, count := x4 } x1 (rlastG (h6 (Int.toNat x1)) (Int.toNat x0) (0 : Nat) (Int.toNat (g6 (Int.toNat x1) (0 : Nat) - (0 : Int))) (0 : Int))).L))]))
 (.no))
 (.ok (.normal, [(.i (x0)), (.i (Go.IntKind.wrap Go.IntKind.i64 (x1 + (1 : Int)))), (.b (x2)), (.i (x3)), (.i (x4)), (.r (n5) (g5)), (.q (n6) (g6) ((0 : Nat)) ((10 : Nat)) (h6))])))
 (.no))
 (.ok (.exit 0, [(.b (x2)), (.i (x3)), (.i (x4)), (.r (n5) (g5)), (.q (n6) (g6) ((0 : Nat)) ((10 : Nat)) (h6))]))
noncomputable def y_rfence_7 : Nat → Option Nat := (syOf3 [26, 57] [] [])
noncomputable def BL_rfence_7 (l : List At) : Tr (Ex × List At) := B_rfence_7 (aI l 0) (aI l 1) (aB l 2) (aI l 3) (aI l 4) (aRn l 5) (aRg l 5) (aRn l 6) (aRg l 6) (aMh l 6 0 10)
theorem eB_rfence_7 (l : List At) : (exec Try.prog Γ_RS2 y_rfence_7 Lp_rfence_11 100 (loopAt Try.f44 7) ⟨mkV lsh_rfence_7 l, mkH lsh_rfence_7 l⟩).bind (leafL 4 xs_rfence_7) = BL_rfence_7 l := by kernel_rfl
/- by hand: O_rfence_7 (x0 : Int) (x1 : Int) (x2 : Bool) (x3 : Int) (x4 : Int) (n5 : Nat) (g5 : Nat → Nat → Int) (n6 : Nat) (g6 : Nat → Nat → Int) (h6 : Nat → Nat → Int) : Tr (Ex × List At); OL_rfence_7 (l) := O_rfence_7 (aI l 0) (aI l 1) (aB l 2) (aI l 3) (aI l 4) (aRn l 5) (aRg l 5) (aRn l 6) (aRg l 6) (aMh l 6 0 10); μ_rfence_7 : List At → Nat; rd_rfence_7 : ∀ l r, (OL_rfence_7 l).val = some r → RoundA BL_rfence_7 OL_rfence_7 μ_rfence_7 l r -/

end Go.Proofs.Ytgmhggipaopoiaa.G
end

/-
  The loop of the reference's Fence, over all lines.
-/
section
namespace Go.Proofs.Ytgmhggipaopoiaa.G
open Go Go.AM Go.Proofs

theorem lastF_le (hr : Nat → Int) (core : Nat) : ∀ m, lastF hr core m ≤ m
  | 0 => Nat.le_refl _
  | m + 1 => by
    have := lastF_le hr core m
    rw [lastF]
    split <;> omega
theorem rsS_zero (s hr : Nat → Int) : rsS s hr 0 = s := by funext c; unfold rsS; split <;> rfl
theorem rsL_zero (hr : Nat → Int) : rsL hr 0 = hr := rfl

def RMem.fk (y : RMem) (core i : Nat) : Nat := lastF (y.L i) core (y.G i 0).toNat
def RMem.feF (y : RMem) (core a : Nat) : RMem := y.wit (fun i => if a ≤ i ∧ i < y.n then rsS (y.S i) (y.L i) (y.fk core i) else y.S i)
  (fun i c => if c = 0 ∧ a ≤ i ∧ i < y.n then y.G i 0 - y.fk core i else y.G i c) (fun i => if a ≤ i ∧ i < y.n then rsL (y.L i) (y.fk core i) else y.L i)

theorem RMem.wit_eq {y y' : RMem} {S G L S' G' L' : Nat → Nat → Int} (hn : y.n = y'.n) (hk : y.k = y'.k) (h1 : y.off = y'.off) (h2 : y.left = y'.left) (h3 : y.count = y'.count) (hS : S = S') (hG : G = G') (hL : L = L') : y.wit S G L = y'.wit S' G' L' := by
  unfold RMem.wit
  rw [hn, hk, h1, h2, h3, hS, hG, hL]

theorem feF_step (y : RMem) (core a : Nat) (ha : a < y.n) (m : Int) (hm : m = (y.fk core a : Int)) : (y.suM (a : Int) m).feF core (a + 1) = y.feF core a := by
  subst hm
  refine RMem.wit_eq rfl rfl rfl rfl rfl (funext fun i => ?_) (funext fun i => funext fun c => ?_) (funext fun i => ?_)
  · show (if a + 1 ≤ i ∧ i < y.n then rsS (updR y.S a (rsS (y.S a) (y.L a) (y.fk core a)) i) (updR y.L a (rsL (y.L a) (y.fk core a)) i) (lastF (updR y.L a (rsL (y.L a) (y.fk core a)) i) core (updG y.G a 0 (y.G a 0 - (y.fk core a : Int)) i 0).toNat) else updR y.S a (rsS (y.S a) (y.L a) (y.fk core a)) i) = if a ≤ i ∧ i < y.n then rsS (y.S i) (y.L i) (y.fk core i) else y.S i
    by_cases hi : i = a
    · subst hi
      rw [if_neg (by omega), updR_self, if_pos ⟨Nat.le_refl _, ha⟩]
    · rw [updR_ne hi, updR_ne hi, updG_row, updR_ne hi]
      by_cases hc : a ≤ i ∧ i < y.n
      · rw [if_pos (by omega), if_pos hc]; rfl
      · rw [if_neg (by omega), if_neg hc]
  · show (if c = 0 ∧ a + 1 ≤ i ∧ i < y.n then updG y.G a 0 (y.G a 0 - (y.fk core a : Int)) i 0 - (lastF (updR y.L a (rsL (y.L a) (y.fk core a)) i) core (updG y.G a 0 (y.G a 0 - (y.fk core a : Int)) i 0).toNat : Int) else updG y.G a 0 (y.G a 0 - (y.fk core a : Int)) i c) = if c = 0 ∧ a ≤ i ∧ i < y.n then y.G i 0 - (y.fk core i : Int) else y.G i c
    rw [updG_row]
    by_cases hi : i = a
    · subst hi
      rw [if_neg (by omega), updR_self]
      by_cases hc : c = 0
      · rw [if_pos hc, if_pos ⟨hc, Nat.le_refl _, ha⟩]
      · rw [if_neg hc, if_neg (fun hh => hc hh.1)]
    · rw [updR_ne hi, updR_ne hi]
      by_cases hc : c = 0 ∧ a ≤ i ∧ i < y.n
      · rw [if_pos (by omega), if_pos hc]; rfl
      · rw [if_neg (by omega), if_neg hc]
  · show (if a + 1 ≤ i ∧ i < y.n then rsL (updR y.L a (rsL (y.L a) (y.fk core a)) i) (lastF (updR y.L a (rsL (y.L a) (y.fk core a)) i) core (updG y.G a 0 (y.G a 0 - (y.fk core a : Int)) i 0).toNat) else updR y.L a (rsL (y.L a) (y.fk core a)) i) = if a ≤ i ∧ i < y.n then rsL (y.L i) (y.fk core i) else y.L i
    by_cases hi : i = a
    · subst hi
      rw [if_neg (by omega), updR_self, if_pos ⟨Nat.le_refl _, ha⟩]
    · rw [updR_ne hi, updG_row, updR_ne hi]
      by_cases hc : a ≤ i ∧ i < y.n
      · rw [if_pos (by omega), if_pos hc]; rfl
      · rw [if_neg (by omega), if_neg hc]

theorem feF_skip (y : RMem) (core a : Nat) (hk : y.fk core a = 0) : y.feF core (a + 1) = y.feF core a := by
  refine RMem.wit_eq rfl rfl rfl rfl rfl (funext fun i => ?_) (funext fun i => funext fun c => ?_) (funext fun i => ?_)
  · by_cases hi : i = a
    · subst hi
      rw [if_neg (by omega)]
      split
      · rw [hk, rsS_zero]
      · rfl
    · by_cases hc : a ≤ i ∧ i < y.n
      · rw [if_pos (by omega), if_pos hc]
      · rw [if_neg (by omega), if_neg hc]
  · by_cases hi : i = a
    · subst hi
      rw [if_neg (by omega)]
      split
      · rename_i h
        rw [hk, h.1]; simp
      · rfl
    · by_cases hc : c = 0 ∧ a ≤ i ∧ i < y.n
      · rw [if_pos (by omega), if_pos hc]
      · rw [if_neg (by omega), if_neg hc]
  · by_cases hi : i = a
    · subst hi
      rw [if_neg (by omega)]
      split
      · rw [hk, rsL_zero]
      · rfl
    · by_cases hc : a ≤ i ∧ i < y.n
      · rw [if_pos (by omega), if_pos hc]
      · rw [if_neg (by omega), if_neg hc]

theorem feF_end (y : RMem) (core a : Nat) (ha : y.n ≤ a) : y.feF core a = y := by
  unfold RMem.feF RMem.wit
  have e1 : (fun i => if a ≤ i ∧ i < y.n then rsS (y.S i) (y.L i) (y.fk core i) else y.S i) = y.S := funext fun i => if_neg (by omega)
  have e2 : (fun i c => if c = 0 ∧ a ≤ i ∧ i < y.n then y.G i 0 - (y.fk core i : Int) else y.G i c) = y.G := funext fun i => funext fun c => if_neg (by omega)
  have e3 : (fun i => if a ≤ i ∧ i < y.n then rsL (y.L i) (y.fk core i) else y.L i) = y.L := funext fun i => if_neg (by omega)
  rw [e1, e2, e3]

def rpO (x0 x1 : Int) (y : RMem) : Prop := (0 ≤ x0 ∧ x0 < 8) ∧ (0 ≤ x1 ∧ x1 ≤ y.n) ∧ (y.k = y.n ∧ y.n ≤ 1073741824) ∧ ∀ i, x1.toNat ≤ i → i < y.n → RRowOk (y.G i 0) (y.L i)

noncomputable def O_rfence_7 (x0 x1 : Int) (y : RMem) : Tr (Ex × List At) := .br 0 (pdec (rpO x0 x1 y)) (.ok (.exit 0, (y.feF x0.toNat x1.toNat).ats)) .no
noncomputable def OL_rfence_7 (l : List At) : Tr (Ex × List At) := O_rfence_7 (aI l 0) (aI l 1) (mmr l 2)
def μ_rfence_7 (l : List At) : Nat := ((aRn l 5 : Int) - aI l 1).toNat

theorem rd_rfence_7 : ∀ l r, (OL_rfence_7 l).val = some r → RoundS BL_rfence_7 OL_rfence_7 μ_rfence_7 l r := by
  intro l r h
  obtain ⟨hc, h⟩ := guard_val h
  obtain ⟨⟨c0, c1⟩, ⟨c2, c3⟩, ⟨c4, c5⟩, c6⟩ := of_pdec hc
  unfold RoundS BL_rfence_7 B_rfence_7 rfence_7_c17
  simp only [mmr] at c3 c4 c5 c6 h
  generalize hx0 : aI l 0 = x0 at *
  generalize hx1 : aI l 1 = x1 at *
  generalize hn : aRn l 5 = n at *
  generalize hS : aRg l 5 = S at *
  generalize hk : aRn l 6 = k at *
  generalize hg : aRg l 6 = g at *
  generalize hh : aMh l 6 0 10 = hm at *
  generalize hb : aB l 2 = x2 at *
  generalize hb3 : aI l 3 = x3 at *
  generalize hb4 : aI l 4 = x4 at *
  refine brD (fun h1 => ?_) (fun h1 => ?_)
  · have hw : IntKind.i64.wrap (x1 + 1) = x1 + 1 := wrap_i64 (by omega) (by omega)
    have e2 : (x1 + 1).toNat = x1.toNat + 1 := by omega
    have hμ : ((n : Int) - (x1 + 1)).toNat < μ_rfence_7 l := by unfold μ_rfence_7; rw [hn, hx1]; omega
    have ho := c6 x1.toNat (Nat.le_refl _) (by omega)
    obtain ⟨o1, o2, o3⟩ := ho
    refine brT (pdec_yes ⟨⟨c0, c1⟩, ⟨c2, by omega⟩, Int.le_refl _, o1, o2⟩) ?_
    rw [Int.sub_zero, rlastG_all, hw]
    have hle := lastF_le (hm x1.toNat) x0.toNat (g x1.toNat 0).toNat
    have hfk : RMem.fk ⟨n, S, k, g, hm, x2, x3, x4⟩ x0.toNat x1.toNat = lastF (hm x1.toNat) x0.toNat (g x1.toNat 0).toNat := rfl
    rw [← hfk] at hle ⊢
    refine brD (fun h2 => brT (pdec_yes ⟨by omega, ⟨c2, by show x1 < (n : Int); omega⟩, c4, by show _ ≤ g x1.toNat 0; omega, o1, o2, o3⟩) ?_) (fun h2 => ?_)
    · have key := feF_step ⟨n, S, k, g, hm, x2, x3, x4⟩ x0.toNat x1.toNat (by show x1.toNat < n; omega) _ rfl
      rw [Int.toNat_of_nonneg c2, ← e2] at key
      rw [← key] at h
      have hq : rpO x0 (x1 + 1) (RMem.suM ⟨n, S, k, g, hm, x2, x3, x4⟩ x1 (RMem.fk ⟨n, S, k, g, hm, x2, x3, x4⟩ x0.toNat x1.toNat)) := ⟨⟨c0, c1⟩, ⟨by omega, by show x1 + 1 ≤ (n : Int); omega⟩, ⟨c4, c5⟩, fun i h5 h6 => by
        show RRowOk (updG g x1.toNat 0 _ i 0) (updR hm x1.toNat _ i)
        rw [updG_row, updR_ne (by omega), updR_ne (by omega)]
        exact c6 i (by omega) h6⟩
      exact on_ _ r (AtsEq.refl _) hμ ((br_t (g := 0) (pdec_yes hq)).trans h) rfl (AtsEq.refl _)
    · have key := feF_skip ⟨n, S, k, g, hm, x2, x3, x4⟩ x0.toNat x1.toNat (by omega)
      rw [← e2] at key
      rw [← key] at h
      have hq : rpO x0 (x1 + 1) ⟨n, S, k, g, hm, x2, x3, x4⟩ := ⟨⟨c0, c1⟩, ⟨by omega, by show x1 + 1 ≤ (n : Int); omega⟩, ⟨c4, c5⟩, fun i h5 h6 => c6 i (by omega) h6⟩
      exact on_ _ r (AtsEq.refl _) hμ ((br_t (g := 0) (pdec_yes hq)).trans h) rfl (AtsEq.refl _)
  · rw [feF_end _ _ _ (by show n ≤ x1.toNat; omega)] at h
    have hr := val_ok h
    subst hr
    exact out_ (by simp) rfl (AtsEq.refl _)
end Go.Proofs.Ytgmhggipaopoiaa.G
end

/-
  What functions of the seat compute, printed by a program from the explorer.
-/
section
namespace Go.Proofs.Ytgmhggipaopoiaa.G
open Go Go.AM Go.Proofs
theorem f_rfence_7 : LoopF Try.prog 4 (loopAt Try.f44 7) (loopFn 4 lsh_rfence_7 xs_rfence_7 OL_rfence_7) :=
  loop_sat (sy := y_rfence_7) (fuel := 100) (Lp := Lp_rfence_11) o_RS2 mixed (loopsOK_at lk_rfence_11 7) rfl eB_rfence_7 rd_rfence_7
noncomputable def Lp_rfence_7 : Loops := Loops.set Lp_rfence_11 7 (loopFn 4 lsh_rfence_7 xs_rfence_7 OL_rfence_7)
theorem lk_rfence_7 : LoopsFn Try.prog 4 Lp_rfence_7 Try.f44 := loopsFn_set lk_rfence_11 (by kernel_rfl) f_rfence_7

/-! ### rfence -/

noncomputable def ish_rfence : FSh := ⟨[.v false [.p 0 0], .v false [.k (.n .i64)]], [.cells [.sw 1 8, .sw 2 1, .k .b, .k (.n .i64), .k (.n .i64)], .rows [.n .u64, .n .u64, .n .u64, .n .u64, .n .u64, .n .u64, .n .u64, .n .u64] true, .nrows [.n .i64] 0 [.n .i64, .n .u64, .b, .b, .b, .b, .b, .b, .b, .b] 3 false true, .no]⟩
noncomputable def osh_rfence : FSh := ⟨[.v false [.k (.n .i64)]], [.cells [.sw 1 8, .sw 2 1, .k .b, .k (.n .i64), .k (.n .i64)], .rows [.n .u64, .n .u64, .n .u64, .n .u64, .n .u64, .n .u64, .n .u64, .n .u64] true, .nrows [.n .i64] 0 [.n .i64, .n .u64, .b, .b, .b, .b, .b, .b, .b, .b] 4 false true, .no, .no]⟩
noncomputable def T_rfence (x0 : Int) (x1 : Bool) (x2 : Int) (x3 : Int) (n4 : Nat) (g4 : Nat → Nat → Int) (n5 : Nat) (g5 : Nat → Nat → Int) (h5 : Nat → Nat → Int) : Tr (List At) :=
 .br 11 (Decidable.decide (x0 < (0 : Int)))
 (.ok [(.i ((1 : Int))), (.b (x1)), (.i (x2)), (.i (x3)), (.r (n4) (g4)), (.q (n5) (g5) ((0 : Nat)) ((10 : Nat)) (h5))])
 (.br 14 (Decidable.decide (x0 > (7 : Int)))
 (.ok [(.i ((1 : Int))), (.b (x1)), (.i (x2)), (.i (x3)), (.r (n4) (g4)), (.q (n5) (g5) ((0 : Nat)) ((10 : Nat)) (h5))])
 (.br 0 (pdec (stepOk x2 x3))
 (.br 18 (rcodI x1 x2 != (0 : Int))
 (.ok [(.i (rcodI x1 x2)), (.b (rpoB x1 x2)), (.i (rleftI x1 x2)), (.i (rcntI x1 x2 x3)), (.r (n4) (g4)), (.q (n5) (g5) ((0 : Nat)) ((10 : Nat)) (h5))])
 (.br 0 (pdec (rpO x0 (0 : Int) { n := n4, S := g4, k := n5, G := g5, L := h5, off := rpoB x1 x2, left := rleftI x1 x2, count := rcntI x1 x2 x3 }))
 (.ok [(.i ((0 : Int))), (.b ((RMem.feF { n := n4, S := g4, k := n5, G := g5, L := h5, off := rpoB x1 x2, left := rleftI x1 x2, count := rcntI x1 x2 x3 } (Int.toNat x0) (0 : Nat)).off)), (.i ((RMem.feF { n := n4, S := g4, k := n5, G := g5, L := h5, off := rpoB x1 x2, left := rleftI x1 x2, count := rcntI x1 x2 x3 } (Int.toNat x0) (0 : Nat)).left)), (.i ((RMem.feF { n := n4, S := g4, k := n5, G := g5, L := h5, off := rpoB x1 x2, left := rleftI x1 x2, count := rcntI x1 x2 x3 } (Int.toNat x0) (0 : Nat)).count)), (.r ((RMem.feF { n := n4, S := g4, k := n5, G := g5, L := h5, off := rpoB x1 x2, left := rleftI x1 x2, count := rcntI x1 x2 x3 } (Int.toNat x0) (0 : Nat)).n) ((RMem.feF { n := n4, S := g4, k := n5, G := g5, L := h5, off := rpoB x1 x2, left := rleftI x1 x2, count := rcntI x1 x2 x3 } (Int.toNat x0) (0 : Nat)).S)), (.q ((RMem.feF { n := n4, S := g4, k := n5, G := g5, L := h5, off := rpoB x1 x2, left := rleftI x1 x2, count := rcntI x1 x2 x3 } (Int.toNat x0) (0 : Nat)).k) ((RMem.feF { n := n4, S := g4, k := n5, G := g5, L := h5, off := rpoB x1 x2, left := rleftI x1 x2, count := rcntI x1 x2 x3 } (Int.toNat x0) (0 : Nat)).G) ((0 : Nat)) ((10 : Nat)) ((RMem.feF { n := n4, S := g4, k := n5, G := g5, L := h5, off := rpoB x1 x2, left := rleftI x1 x2, count := rcntI x1 x2 x3 } (Int.toNat x0) (0 : Nat)).L))])
 (.no)))
 (.no)))
noncomputable def y_rfence : Nat → Option Nat := (syOf3 [11, 14, 18] [] [])
noncomputable def TL_rfence (l : List At) : Tr (List At) := T_rfence (aI l 0) (aB l 1) (aI l 2) (aI l 3) (aRn l 4) (aRg l 4) (aRn l 5) (aRg l 5) (aMh l 5 0 10)
theorem e_rfence (l : List At) : (call Try.prog Γ_RS2 y_rfence Lp_rfence_7 100 Try.f44 (mkV ish_rfence l) (mkH ish_rfence l)).bind (leafO 4 osh_rfence) = TL_rfence l := by kernel_rfl
end Go.Proofs.Ytgmhggipaopoiaa.G
end

/-
  What functions of the seat compute, printed by a program from the explorer.
-/
section
namespace Go.Proofs.Ytgmhggipaopoiaa.G
open Go Go.AM Go.Proofs
/-! ### the loop at 2 of rcrash -/

noncomputable def lsh_rcrash_2 : FSh := ⟨[.v false [.p 0 0], .v false [.sq 1 1], .any, .any, .v false [.k (.n .i64)], .v false [.k (.n .i64)], .any, .any, .any, .any, .any, .any, .any, .any, .any, .any, .any, .any, .any, .any, .any, .any, .any, .any, .any, .any, .any, .any, .any, .any, .any, .any, .any, .any, .any, .any, .any, .any, .any, .any, .any, .any, .any, .any, .any, .any, .any, .any, .any, .any, .any, .any, .any, .any, .any, .any, .any, .any, .any, .any, .any, .any, .any, .any, .any, .any], [.cells [.sw 2 8, .sw 3 1, .k .b, .k (.n .i64), .k (.n .i64)], .rows [.n .i64] false, .rows [.n .u64, .n .u64, .n .u64, .n .u64, .n .u64, .n .u64, .n .u64, .n .u64] true, .nrows [.n .i64] 0 [.n .i64, .n .u64, .b, .b, .b, .b, .b, .b, .b, .b] 5 false true, .no, .no]⟩
noncomputable def xsh_rcrash_2_0 : FSh := ⟨[.v false [.p 0 0], .any, .any, .any, .any, .any, .any, .any, .any, .any, .any, .any, .any, .any, .any, .any, .any, .any, .any, .any, .any, .any, .any, .any, .any, .any, .any, .any, .any, .any, .any, .any, .any, .any, .any, .any, .any, .any, .any, .any, .any, .any, .any, .any, .any, .any, .any, .any, .any, .any, .any, .any, .any, .any, .any, .any, .any, .any, .any, .any, .any, .any, .any, .any, .any, .any], [.cells [.sw 2 8, .sw 3 1, .k .b, .k (.n .i64), .k (.n .i64)], .no, .rows [.n .u64, .n .u64, .n .u64, .n .u64, .n .u64, .n .u64, .n .u64, .n .u64] true, .nrows [.n .i64] 0 [.n .i64, .n .u64, .b, .b, .b, .b, .b, .b, .b, .b] 5 false true, .no, .no]⟩
noncomputable def xs_rcrash_2 : Exs := fun e => match e with
  | .normal => some lsh_rcrash_2
  | .exit n => (match Nat.beq n 0 with | true => some xsh_rcrash_2_0 | false => none)
  | .ret => none
noncomputable def B_rcrash_2 (x0 : Nat) (x1 : Nat) (x2 : Int) (x3 : Int) (x4 : Bool) (x5 : Int) (x6 : Int) (n7 : Nat) (g7 : Nat → Nat → Int) (n8 : Nat) (g8 : Nat → Nat → Int) (n9 : Nat) (g9 : Nat → Nat → Int) (h9 : Nat → Nat → Int) : Tr (Ex × List At) :=
 .br 13 (Decidable.decide (x3 < (↑n8 : Int)))
 (.br 21 (Go.AM.within x3 n9)
 (.br 24 ((↑(Int.toNat (g9 (Int.toNat x3) (0 : Nat))) : Int) == (0 : Int))
 (.ok (.normal, [(.n (x0)), (.n (x1)), (.i (x2)), (.i (Go.IntKind.wrap Go.IntKind.i64 (x3 + (1 : Int)))), (.b (x4)), (.i (x5)), (.i (x6)), (.r (n7) (g7)), (.r (n8) (g8)), (.q (n9) (g9) ((0 : Nat)) ((10 : Nat)) (h9))]))
 (.br 28 (Decidable.decide (x2 < (↑x1 : Int)))
 (.br 31 (Go.AM.within x2 x1)
 (.br 34 (Decidable.decide (g7 (x0 + Int.toNat x2) (0 : Nat) < (0 : Int)))
 (.br 46 (Go.AM.within x3 n9)
 (.br 50 (Go.IntKind.wrap Go.IntKind.i64 ((↑(Int.toNat (g9 (Int.toNat x3) (0 : Nat))) : Int) + (1 : Int)) != (0 : Int))
 (.br 0 (pdec (RMem.hasOk { n := n8, S := g8, k := n9, G := g9, L := h9, off := x4, left := x5, count := x6 } x3 (Int.tmod (Go.IntKind.wrap Go.IntKind.i64 ((0 : Int) - Go.IntKind.wrap Go.IntKind.i64 (g7 (x0 + Int.toNat x2) (0 : Nat) + (1 : Int)))) (Go.IntKind.wrap Go.IntKind.i64 ((↑(Int.toNat (g9 (Int.toNat x3) (0 : Nat))) : Int) + (1 : Int))))))
 (.br 57 (Go.AM.within x3 (RMem.suM { n := n8, S := g8, k := n9, G := g9, L := h9, off := x4, left := x5, count := x6 } x3 (Int.tmod (Go.IntKind.wrap Go.IntKind.i64 ((0 : Int) - Go.IntKind.wrap Go.IntKind.i64 (g7 (x0 + Int.toNat x2) (0 : Nat) + (1 : Int)))) (Go.IntKind.wrap Go.IntKind.i64 ((↑(Int.toNat (g9 (Int.toNat x3) (0 : Nat))) : Int) + (1 : Int))))).k)
 (.br 0 (Bool.true)
 (.ok (.normal, [(.n (x0)), (.n (x1)), (.i (Go.IntKind.wrap Go.IntKind.i64 (x2 + (1 : Int)))), (.i (Go.IntKind.wrap Go.IntKind.i64 (x3 + (1 : Int)))), (.b ((RMem.suM { n := n8, S := g8, k := n9, G := g9, L := h9, off := x4, left := x5, count := x6 } x3 (Int.tmod (Go.IntKind.wrap Go.IntKind.i64 ((0 : Int) - Go.IntKind.wrap Go.IntKind.i64 (g7 (x0 + Int.toNat x2) (0 : Nat) + (1 : Int)))) (Go.IntKind.wrap Go.IntKind.i64 ((↑(Int.toNat (g9 (Int.toNat x3) (0 : Nat))) : Int) + (1 : Int))))).off)), (.i ((RMem.suM { n := n8, S := g8, k := n9, G := g9, L := h9, off := x4, left := x5, count := x6 } x3 (Int.tmod (Go.IntKind.wrap Go.IntKind.i64 ((0 : Int) - Go.IntKind.wrap Go.IntKind.i64 (g7 (x0 + Int.toNat x2) (0 : Nat) + (1 : Int)))) (Go.IntKind.wrap Go.IntKind.i64 ((↑(Int.toNat (g9 (Int.toNat x3) (0 : Nat))) : Int) + (1 : Int))))).left)), (.i ((RMem.suM { n := n8, S := g8, k := n9, G := g9, L := h9, off := x4, left := x5, count := x6 } x3 (Int.tmod (Go.IntKind.wrap Go.IntKind.i64 ((0 : Int) - Go.IntKind.wrap Go.IntKind.i64 (g7 (x0 + Int.toNat x2) (0 : Nat) + (1 : Int)))) (Go.IntKind.wrap Go.IntKind.i64 ((↑(Int.toNat (g9 (Int.toNat x3) (0 : Nat))) : Int) + (1 : Int))))).count)), (.r (n7) (g7)), (.r ((RMem.suM { n := n8, S := g8, k := n9, G := g9, L := h9, off := x4, left := x5, count := x6 } x3 (Int.tmod (Go.IntKind.wrap Go.IntKind.i64 ((0 : Int) - Go.IntKind.wrap Go.IntKind.i64 (g7 (x0 + Int.toNat x2) (0 : Nat) + (1 : Int)))) (Go.IntKind.wrap Go.IntKind.i64 ((↑(Int.toNat (g9 (Int.toNat x3) (0 : Nat))) : Int) + (1 : Int))))).n) ((RMem.suM { n := n8, S := g8, k := n9, G := g9, L := h9, off := x4, left := x5, count := x6 } x3 (Int.tmod (Go.IntKind.wrap Go.IntKind.i64 ((0 : Int) - Go.IntKind.wrap Go.IntKind.i64 (g7 (x0 + Int.toNat x2) (0 : Nat) + (1 : Int)))) (Go.IntKind.wrap Go.IntKind.i64 ((↑(Int.toNat (g9 (Int.toNat x3) (0 : Nat))) : Int) + (1 : Int))))).S)), (.q ((RMem.suM { n := n8, S := g8, k := n9, G := g9, L := h9, off := x4, left := x5, count := x6 } x3 (Int.tmod (Go.IntKind.wrap Go.IntKind.i64 ((0 : Int) - Go.IntKind.wrap Go.IntKind.i64 (g7 (x0 + Int.toNat x2) (0 : Nat) + (1 : Int)))) (Go.IntKind.wrap Go.IntKind.i64 ((↑(Int.toNat (g9 (Int.toNat x3) (0 : Nat))) : Int) + (1 : Int))))).k) (Go.AM.updG (RMem.suM { n := n8, S := g8, k := n9, G := g9, L := h9, off := x4, left := x5, count := x6 } x3 (Int.tmod (Go.IntKind.wrap Go.IntKind.i64 ((0 : Int) - Go.IntKind.wrap Go.IntKind.i64 (g7 (x0 + Int.toNat x2) (0 : Nat) + (1 : Int)))) (Go.IntKind.wrap Go.IntKind.i64 ((↑(Int.toNat (g9 (Int.toNat x3) (0 : Nat))) : Int) + (1 : Int))))).G (Int.toNat x3) (0 : Nat) (0 : Int)) ((0 : Nat)) ((10 : Nat)) ((RMem.suM { n := n8, S := g8, k := n9, G := g9, L := h9, off := x4, left := x5, count := x6 } x3 (Int.tmod (Go.IntKind.wrap Go.IntKind.i64 ((0 : Int) - Go.IntKind.wrap Go.IntKind.i64 (g7 (x0 + Int.toNat x2) (0 : Nat) + (1 : Int)))) (Go.IntKind.wrap Go.IntKind.i64 ((↑(Int.toNat (g9 (Int.toNat x3) (0 : Nat))) : Int) + (1 : Int))))).L))]))
 (.no))
 (.no))
 (.no))
 (.no))
 (.no))
 (.br 46 (Go.AM.within x3 n9)
 (.br 50 (Go.IntKind.wrap Go.IntKind.i64 ((↑(Int.toNat (g9 (Int.toNat x3) (0 : Nat))) : Int) + (1 : Int)) != (0 : Int))
 (.br 0 (pdec (RMem.hasOk { n := n8, S := g8, k := n9, G := g9, L := h9, off := x4, left := x5, count := x6 } x3 (Int.tmod (g7 (x0 + Int.toNat x2) (0 : Nat)) (Go.IntKind.wrap Go.IntKind.i64 ((↑(Int.toNat (g9 (Int.toNat x3) (0 : Nat))) : Int) + (1 : Int))))))
 (.br 57 (Go.AM.within x3 (RMem.suM { n := n8, S := g8, k := n9, G := g9, L := h9, off := x4, left := x5, count := x6 } x3 (Int.tmod (g7 (x0 + Int.toNat x2) (0 : Nat)) (Go.IntKind.wrap Go.IntKind.i64 ((↑(Int.toNat (g9 (Int.toNat x3) (0 : Nat))) : Int) + (1 : Int))))).k)
 (.br 0 (Bool.true)
 (.ok (.normal, [(.n (x0)), (.n (x1)), (.i (Go.IntKind.wrap Go.IntKind.i64 (x2 + (1 : Int)))), (.i (Go.IntKind.wrap Go.IntKind.i64 (x3 + (1 : Int)))), (.b ((RMem.suM { n := n8, S := g8, k := n9, G := g9, L := h9, off := x4, left := x5, count := x6 } x3 (Int.tmod (g7 (x0 + Int.toNat x2) (0 : Nat)) (Go.IntKind.wrap Go.IntKind.i64 ((↑(Int.toNat (g9 (Int.toNat x3) (0 : Nat))) : Int) + (1 : Int))))).off)), (.i ((RMem.suM { n := n8, S := g8, k := n9, G := g9, L := h9, off := x4, left := x5, count := x6 } x3 (Int.tmod (g7 (x0 + Int.toNat x2) (0 : Nat)) (Go.IntKind.wrap Go.IntKind.i64 ((↑(Int.toNat (g9 (Int.toNat x3) (0 : Nat))) : Int) + (1 : Int))))).left)), (.i ((RMem.suM { n := n8, S := g8, k := n9, G := g9, L := h9, off := x4, left := x5, count := x6 } x3 (Int.tmod (g7 (x0 + Int.toNat x2) (0 : Nat)) (Go.IntKind.wrap Go.IntKind.i64 ((↑(Int.toNat (g9 (Int.toNat x3) (0 : Nat))) : Int) + (1 : Int))))).count)), (.r (n7) (g7)), (.r ((RMem.suM { n := n8, S := g8, k := n9, G := g9, L := h9, off := x4, left := x5, count := x6 } x3 (Int.tmod (g7 (x0 + Int.toNat x2) (0 : Nat)) (Go.IntKind.wrap Go.IntKind.i64 ((↑(Int.toNat (g9 (Int.toNat x3) (0 : Nat))) : Int) + (1 : Int))))).n) ((RMem.suM { n := n8, S := g8, k := n9, G := g9, L := h9, off := x4, left := x5, count := x6 } x3 (Int.tmod (g7 (x0 + Int.toNat x2) (0 : Nat)) (Go.IntKind.wrap Go.IntKind.i64 ((↑(Int.toNat (g9 (Int.toNat x3) (0 : Nat))) : Int) + (1 : Int))))).S)), (.q ((RMem.suM { n := n8, S := g8, k := n9, G := g9, L := h9, off := x4, left := x5, count := x6 } x3 (Int.tmod (g7 (x0 + Int.toNat x2) (0 : Nat)) (Go.IntKind.wrap Go.IntKind.i64 ((↑(Int.toNat (g9 (Int.toNat x3) (0 : Nat))) : Int) + (1 : Int))))).k) (Go.AM.updG (RMem.suM { n := n8, S := g8, k := n9, G := g9, L := h9, off := x4, left := x5, count := x6 } x3 (Int.tmod (g7 (x0 + Int.toNat x2) (0 : Nat)) (Go.IntKind.wrap Go.IntKind.i64 ((↑(Int.toNat (g9 (Int.toNat x3) (0 : Nat))) : Int) + (1 : Int))))).G (Int.toNat x3) (0 : Nat) (0 : Int)) ((0 : Nat)) ((10 : Nat)) ((RMem.suM { n := n8, S := g8, k := n9, G := g9, L := h9, off := x4, left := x5, count := x6 } x3 (Int.tmod (g7 (x0 + Int.toNat x2) (0 : Nat)) (Go.IntKind.wrap Go.IntKind.i64 ((↑(Int.toNat (g9 (Int.toNat x3) (0 : Nat))) : Int) + (1 : Int))))).L))]))
 (.no))
 (.no))
 (.no))
 (.no))
 (.no)))
 (.no))
 (.br 34 (Bool.false)
 (.br 46 (Go.AM.within x3 n9)
 (.br 50 (Go.IntKind.wrap Go.IntKind.i64 ((↑(Int.toNat (g9 (Int.toNat x3) (0 : Nat))) : Int) + (1 : Int)) != (0 : Int))
 (.br 0 (pdec (RMem.hasOk { n := n8, S := g8, k := n9, G := g9, L := h9, off := x4, left := x5, count := x6 } x3 (Int.tmod (-1 : Int) (Go.IntKind.wrap Go.IntKind.i64 ((↑(Int.toNat (g9 (Int.toNat x3) (0 : Nat))) : Int) + (1 : Int))))))
 (.br 57 (Go.AM.within x3 (RMem.suM { n := n8, S := g8, k := n9, G := g9, L := h9, off := x4, left := x5, count := x6 } x3 (Int.tmod (-1 : Int) (Go.IntKind.wrap Go.IntKind.i64 ((↑(Int.toNat (g9 (Int.toNat x3) (0 : Nat))) : Int) + (1 : Int))))).k)
 (.br 0 (Bool.true)
 (.ok (.normal, [(.n (x0)), (.n (x1)), (.i (Go.IntKind.wrap Go.IntKind.i64 (x2 + (1 : Int)))), (.i (Go.IntKind.wrap Go.IntKind.i64 (x3 + (1 : Int)))), (.b ((RMem.suM { n := n8, S := g8, k := n9, G := g9, L := h9, off := x4, left := x5, count := x6 } x3 (Int.tmod (-1 : Int) (Go.IntKind.wrap Go.IntKind.i64 ((↑(Int.toNat (g9 (Int.toNat x3) (0 : Nat))) : Int) + (1 : Int))))).off)), (.i ((RMem.suM { n := n8, S := g8, k := n9, G := g9, L := h9, off := x4, left := x5, count := x6 } x3 (Int.tmod (-1 : Int) (Go.IntKind.wrap Go.IntKind.i64 ((↑(Int.toNat (g9 (Int.toNat x3) (0 : Nat))) : Int) + (1 : Int))))).left)), (.i ((RMem.suM { n := n8, S := g8, k := n9, G := g9, L := h9, off := x4, left := x5, count := x6 } x3 (Int.tmod (-1 : Int) (Go.IntKind.wrap Go.IntKind.i64 ((↑(Int.toNat (g9 (Int.toNat x3) (0 : Nat))) : Int) + (1 : Int))))).count)), (.r (n7) (g7)), (.r ((RMem.suM { n := n8, S := g8, k := n9, G := g9, L := h9, off := x4, left := x5, count := x6 } x3 (Int.tmod (-1 : Int) (Go.IntKind.wrap Go.IntKind.i64 ((↑(Int.toNat (g9 (Int.toNat x3) (0 : Nat))) : Int) + (1 : Int))))).n) ((RMem.suM { n := n8, S := g8, k := n9, G := g9, L := h9, off := x4, left := x5, count := x6 } x3 (Int.tmod (-1 : Int) (Go.IntKind.wrap Go.IntKind.i64 ((↑(Int.toNat (g9 (Int.toNat x3) (0 : Nat))) : Int) + (1 : Int))))).S)), (.q ((RMem.suM { n := n8, S := g8, k := n9, G := g9, L := h9, off := x4, left := x5, count := x6 } x3 (Int.tmod (-1 : Int) (Go.IntKind.wrap Go.IntKind.i64 ((↑(Int.toNat (g9 (Int.toNat x3) (0 : Nat))) : Int) + (1 : Int))))).k) (Go.AM.updG (RMem.suM { n := n8, S := g8, k := n9, G := g9, L := h9, off := x4, left := x5, count := x6 } x3 (Int.tmod (-1 : Int) (Go.IntKind.wrap Go.IntKind.i64 ((↑(Int.toNat (g9 (Int.toNat x3) (0 : Nat))) : Int) + (1 : Int))))).G (Int.toNat x3) (0 : Nat) (0 : Int)) ((0 : Nat)) ((10 : Nat)) ((RMem.suM { n := n8, S := g8, k := n9, G := g9, L := h9, off := x4, left := x5, count := x6 } x3 (Int.tmod (-1 : Int) (Go.IntKind.wrap Go.IntKind.i64 ((↑(Int.toNat (g9 (Int.toNat x3) (0 : Nat))) : Int) + (1 : Int))))).L))]))
 (.no))
 (.no))
 (.no))
 (.no))
 (.no))
 (.br 46 (Go.AM.within x3 n9)
 (.br 50 (Go.IntKind.wrap Go.IntKind.i64 ((↑(Int.toNat (g9 (Int.toNat x3) (0 : Nat))) : Int) + (1 : Int)) != (0 : Int))
 (.br 0 (pdec (RMem.hasOk { n := n8, S := g8, k := n9, G := g9, L := h9, off := x4, left := x5, count := x6 } x3 (Int.tmod (0 : Int) (Go.IntKind.wrap Go.IntKind.i64 ((↑(Int.toNat (g9 (Int.toNat x3) (0 : Nat))) : Int) + (1 : Int))))))
 (.br 57 (Go.AM.within x3 (RMem.suM { n := n8, S := g8, k := n9, G := g9, L := h9, off := x4, left := x5, count := x6 } x3 (Int.tmod (0 : Int) (Go.IntKind.wrap Go.IntKind.i64 ((↑(Int.toNat (g9 (Int.toNat x3) (0 : Nat))) : Int) + (1 : Int))))).k)
 (.br 0 (Bool.true)
 (.ok (.normal, [(.n (x0)), (.n (x1)), (.i (Go.IntKind.wrap Go.IntKind.i64 (x2 + (1 : Int)))), (.i (Go.IntKind.wrap Go.IntKind.i64 (x3 + (1 : Int)))), (.b ((RMem.suM { n := n8, S := g8, k := n9, G := g9, L := h9, off := x4, left := x5, count := x6 } x3 (Int.tmod (0 : Int) (Go.IntKind.wrap Go.IntKind.i64 ((↑(Int.toNat (g9 (Int.toNat x3) (0 : Nat))) : Int) + (1 : Int))))).off)), (.i ((RMem.suM { n := n8, S := g8, k := n9, G := g9, L := h9, off := x4, left := x5, count := x6 } x3 (Int.tmod (0 : Int) (Go.IntKind.wrap Go.IntKind.i64 ((↑(Int.toNat (g9 (Int.toNat x3) (0 : Nat))) : Int) + (1 : Int))))).left)), (.i ((RMem.suM { n := n8, S := g8, k := n9, G := g9, L := h9, off := x4, left := x5, count := x6 } x3 (Int.tmod (0 : Int) (Go.IntKind.wrap Go.IntKind.i64 ((↑(Int.toNat (g9 (Int.toNat x3) (0 : Nat))) : Int) + (1 : Int))))).count)), (.r (n7) (g7)), (.r ((RMem.suM { n := n8, S := g8, k := n9, G := g9, L := h9, off := x4, left := x5, count := x6 } x3 (Int.tmod (0 : Int) (Go.IntKind.wrap Go.IntKind.i64 ((↑(Int.toNat (g9 (Int.toNat x3) (0 : Nat))) : Int) + (1 : Int))))).n) ((RMem.suM { n := n8, S := g8, k := n9, G := g9, L := h9, off := x4, left := x5, count := x6 } x3 (Int.tmod (0 : Int) (Go.IntKind.wrap Go.IntKind.i64 ((↑(Int.toNat (g9 (Int.toNat x3) (0 : Nat))) : Int) + (1 : Int))))).S)), (.q ((RMem.suM { n := n8, S := g8, k := n9, G := g9, L := h9, off := x4, left := x5, count := x6 } x3 (Int.tmod (0 : Int) (Go.IntKind.wrap Go.IntKind.i64 ((↑(Int.toNat (g9 (Int.toNat x3) (0 : Nat))) : Int) + (1 : Int))))).k) (Go.AM.updG (RMem.suM { n := n8, S := g8, k := n9, G := g9, L := h9, off := x4, left := x5, count := x6 } x3 (Int.tmod (0 : Int) (Go.IntKind.wrap Go.IntKind.i64 ((↑(Int.toNat (g9 (Int.toNat x3) (0 : Nat))) : Int) + (1 : Int))))).G (Int.toNat x3) (0 : Nat) (0 : Int)) ((0 : Nat)) ((10 : Nat)) ((RMem.suM { n := n8, S := g8, k := n9, G := g9, L := h9, off := x4, left := x5, count := x6 } x3 (Int.tmod (0 : Int) (Go.IntKind.wrap Go.IntKind.i64 ((↑(Int.toNat (g9 (Int.toNat x3) (0 : Nat))) : Int) + (1 : Int))))).L))]))
 (.no))
 (.no))
 (.no))
 (.no))
 (.no)))))
 (.no))
 (.ok (.exit 0, [(.b (x4)), (.i (x5)), (.i (x6)), (.r (n8) (g8)), (.q (n9) (g9) ((0 : Nat)) ((10 : Nat)) (h9))]))
noncomputable def y_rcrash_2 : Nat → Option Nat := (syOf3 [13, 21, 24, 28, 31, 34, 46, 50, 57] [] [])
noncomputable def BL_rcrash_2 (l : List At) : Tr (Ex × List At) := B_rcrash_2 (aN l 0) (aN l 1) (aI l 2) (aI l 3) (aB l 4) (aI l 5) (aI l 6) (aRn l 7) (aRg l 7) (aRn l 8) (aRg l 8) (aRn l 9) (aRg l 9) (aMh l 9 0 10)
theorem eB_rcrash_2 (l : List At) : (exec Try.prog Γ_RS2 y_rcrash_2 noLoops 100 (loopAt Try.f31 2) ⟨mkV lsh_rcrash_2 l, mkH lsh_rcrash_2 l⟩).bind (leafL 5 xs_rcrash_2) = BL_rcrash_2 l := by kernel_rfl
/- by hand: O_rcrash_2 (x0 : Nat) (x1 : Nat) (x2 : Int) (x3 : Int) (x4 : Bool) (x5 : Int) (x6 : Int) (n7 : Nat) (g7 : Nat → Nat → Int) (n8 : Nat) (g8 : Nat → Nat → Int) (n9 : Nat) (g9 : Nat → Nat → Int) (h9 : Nat → Nat → Int) : Tr (Ex × List At); OL_rcrash_2 (l) := O_rcrash_2 (aN l 0) (aN l 1) (aI l 2) (aI l 3) (aB l 4) (aI l 5) (aI l 6) (aRn l 7) (aRg l 7) (aRn l 8) (aRg l 8) (aRn l 9) (aRg l 9) (aMh l 9 0 10); μ_rcrash_2 : List At → Nat; rd_rcrash_2 : ∀ l r, (OL_rcrash_2 l).val = some r → RoundA BL_rcrash_2 OL_rcrash_2 μ_rcrash_2 l r -/

end Go.Proofs.Ytgmhggipaopoiaa.G
end

/-
  The loop of the reference's Crash: of each line that has stores some first ones become sure, the others are lost.
-/
section
namespace Go.Proofs.Ytgmhggipaopoiaa.G
open Go Go.AM Go.Proofs

def rcnt (G : Nat → Nat → Int) : (a d : Nat) → Nat
  | _, 0 => 0
  | a, d + 1 => (if G a 0 > 0 then 1 else 0) + rcnt G (a + 1) d
theorem rcnt_congr {g g' : Nat → Nat → Int} : ∀ (d a : Nat), (∀ i, a ≤ i → i < a + d → g i 0 = g' i 0) → rcnt g a d = rcnt g' a d
  | 0, _, _ => rfl
  | d + 1, a, h => by
    rw [rcnt, rcnt, h a (Nat.le_refl _) (by omega), rcnt_congr d (a + 1) fun i h1 h2 => h i (by omega) (by omega)]

def RMem.crF (y : RMem) (q : Nat → Int) (kn at' a : Nat) : RMem := y.wit (fun i => if a ≤ i ∧ i < y.n ∧ y.G i 0 > 0 then rsS (y.S i) (y.L i) (crK q kn (at' + rcnt y.G a (i - a)) (y.G i 0)) else y.S i)
  (fun i c => if c = 0 ∧ a ≤ i ∧ i < y.n then 0 else y.G i c) y.L

theorem crF_skip (y : RMem) (q : Nat → Int) (kn at' a : Nat) (h : y.G a 0 = 0) : y.crF q kn at' (a + 1) = y.crF q kn at' a := by
  unfold RMem.crF RMem.wit
  have e1 : (fun i => if a + 1 ≤ i ∧ i < y.n ∧ y.G i 0 > 0 then rsS (y.S i) (y.L i) (crK q kn (at' + rcnt y.G (a + 1) (i - (a + 1))) (y.G i 0)) else y.S i) = fun i => if a ≤ i ∧ i < y.n ∧ y.G i 0 > 0 then rsS (y.S i) (y.L i) (crK q kn (at' + rcnt y.G a (i - a)) (y.G i 0)) else y.S i := by
    funext i
    by_cases hi : i = a
    · subst hi
      rw [if_neg (by omega), if_neg (by omega)]
    · by_cases hc : a ≤ i ∧ i < y.n ∧ y.G i 0 > 0
      · obtain ⟨d, hd⟩ : ∃ d, i = a + (d + 1) := ⟨i - (a + 1), by omega⟩
        have e1 : i - (a + 1) = d := by omega
        have e2 : i - a = d + 1 := by omega
        rw [if_pos ⟨by omega, hc.2⟩, if_pos hc, e1, e2, rcnt, if_neg (by omega), Nat.zero_add]
      · rw [if_neg (fun hh => hc ⟨by omega, hh.2⟩), if_neg hc]
  have e2 : (fun i c => if c = 0 ∧ a + 1 ≤ i ∧ i < y.n then 0 else y.G i c) = fun i c => if c = 0 ∧ a ≤ i ∧ i < y.n then 0 else y.G i c := by
    funext i c
    by_cases hi : i = a
    · subst hi
      rw [if_neg (by omega)]
      split
      · rename_i hc; rw [hc.1, h]
      · rfl
    · by_cases hc : c = 0 ∧ a ≤ i ∧ i < y.n
      · rw [if_pos (by omega), if_pos hc]
      · rw [if_neg (by omega), if_neg hc]
  rw [e1, e2]

theorem crF_end (y : RMem) (q : Nat → Int) (kn at' a : Nat) (ha : y.n ≤ a) : y.crF q kn at' a = y := by
  unfold RMem.crF RMem.wit
  have e1 : (fun i => if a ≤ i ∧ i < y.n ∧ y.G i 0 > 0 then rsS (y.S i) (y.L i) (crK q kn (at' + rcnt y.G a (i - a)) (y.G i 0)) else y.S i) = y.S := funext fun i => if_neg (by omega)
  have e2 : (fun i c => if c = 0 ∧ a ≤ i ∧ i < y.n then 0 else y.G i c) = y.G := funext fun i => funext fun c => if_neg (by omega)
  rw [e1, e2]

def RMem.cr1 (y : RMem) (i : Nat) (m : Int) : RMem := (y.suM i m).wit (y.suM i m).S (updG (y.suM i m).G i 0 0) (y.suM i m).L

theorem crF_step (y : RMem) (q : Nat → Int) (kn at' a : Nat) (ha : a < y.n) (hG : y.G a 0 > 0) (m : Int) (hm : m.toNat = crK q kn at' (y.G a 0)) :
    AtsEq ((y.cr1 a m).crF q kn (at' + 1) (a + 1)).ats (y.crF q kn at' a).ats := by
  have g1 : ∀ i, i ≠ a → (y.cr1 a m).G i = y.G i := fun i hi => by
    show updG (updG y.G a 0 _) a 0 0 i = y.G i
    rw [updG_row, updR_ne hi, updG_row, updR_ne hi]
  have hS : ((y.cr1 a m).crF q kn (at' + 1) (a + 1)).S = (y.crF q kn at' a).S := by
    funext i
    show (if a + 1 ≤ i ∧ i < y.n ∧ (y.cr1 a m).G i 0 > 0 then rsS (updR y.S a (rsS (y.S a) (y.L a) m.toNat) i) (updR y.L a (rsL (y.L a) m.toNat) i) (crK q kn (at' + 1 + rcnt (y.cr1 a m).G (a + 1) (i - (a + 1))) ((y.cr1 a m).G i 0)) else updR y.S a (rsS (y.S a) (y.L a) m.toNat) i) = if a ≤ i ∧ i < y.n ∧ y.G i 0 > 0 then rsS (y.S i) (y.L i) (crK q kn (at' + rcnt y.G a (i - a)) (y.G i 0)) else y.S i
    by_cases hi : i = a
    · subst hi
      rw [if_neg (by omega), updR_self, if_pos ⟨Nat.le_refl _, ha, hG⟩, Nat.sub_self, rcnt, Nat.add_zero, hm]
    · rw [g1 i hi, updR_ne hi, updR_ne hi]
      by_cases hc : a ≤ i ∧ i < y.n ∧ y.G i 0 > 0
      · obtain ⟨d, hd⟩ : ∃ d, i = a + (d + 1) := ⟨i - (a + 1), by omega⟩
        have e1 : i - (a + 1) = d := by omega
        have e2 : i - a = d + 1 := by omega
        rw [if_pos ⟨by omega, hc.2⟩, if_pos hc, e1, e2, rcnt, if_pos hG, rcnt_congr (g := (y.cr1 a m).G) (g' := y.G) d (a + 1) fun j h1 _ => congrFun (g1 j (by omega)) 0, show at' + 1 + rcnt y.G (a + 1) d = at' + (1 + rcnt y.G (a + 1) d) by omega]
      · rw [if_neg (fun hh => hc ⟨by omega, hh.2⟩), if_neg hc]
  have hGG : ((y.cr1 a m).crF q kn (at' + 1) (a + 1)).G = (y.crF q kn at' a).G := by
    funext i c
    show (if c = 0 ∧ a + 1 ≤ i ∧ i < y.n then 0 else (y.cr1 a m).G i c) = if c = 0 ∧ a ≤ i ∧ i < y.n then 0 else y.G i c
    by_cases hi : i = a
    · subst hi
      rw [if_neg (by omega)]
      show updG (updG y.G i 0 _) i 0 0 i c = _
      rw [updG_row, updR_self, updG_row, updR_self]
      by_cases hc : c = 0
      · rw [if_pos hc, if_pos ⟨hc, Nat.le_refl _, ha⟩]
      · rw [if_neg hc, if_neg hc, if_neg (fun hh => hc hh.1)]
    · rw [g1 i hi]
      by_cases hc : c = 0 ∧ a ≤ i ∧ i < y.n
      · rw [if_pos (by omega), if_pos hc]
      · rw [if_neg (by omega), if_neg hc]
  unfold RMem.ats
  rw [hS, hGG]
  refine atsEq_cons (AtEq.refl _) (atsEq_cons (AtEq.refl _) (atsEq_cons (AtEq.refl _) (atsEq_cons (AtEq.refl _) (atsEq_cons (atEq_q rfl (fun _ _ _ => rfl) fun i hi k hk => ?_) atsEq_nil))))
  by_cases hia : i = a
  · subst hia
    have : (y.crF q kn at' i).G i 0 = 0 := if_pos ⟨rfl, Nat.le_refl _, ha⟩
    rw [this] at hk
    exact absurd hk (by simp)
  · show updR y.L a _ i k = y.L i k
    rw [updR_ne hia]

def rpC (x1 : Nat) (x2 x3 : Int) (q : Nat → Int) (y : RMem) : Prop := (0 ≤ x2 ∧ x2 ≤ x3) ∧ x3 ≤ y.n ∧ (y.k = y.n ∧ y.n ≤ 1073741824) ∧ (∀ i, x3.toNat ≤ i → i < y.n → RRowOk (y.G i 0) (y.L i)) ∧ ∀ j, j < x1 → -9223372036854775808 ≤ q j ∧ q j ≤ 9223372036854775807

noncomputable def O_rcrash_2 (x0 x1 : Nat) (x2 x3 : Int) (g7 : Nat → Nat → Int) (y : RMem) : Tr (Ex × List At) :=
  .br 0 (pdec (rpC x1 x2 x3 (fun j => g7 (x0 + j) 0) y)) (.ok (.exit 0, (y.crF (fun j => g7 (x0 + j) 0) x1 x2.toNat x3.toNat).ats)) .no
def mmk (l : List At) : RMem := ⟨aRn l 8, aRg l 8, aRn l 9, aRg l 9, aMh l 9 0 10, aB l 4, aI l 5, aI l 6⟩
noncomputable def OL_rcrash_2 (l : List At) : Tr (Ex × List At) := O_rcrash_2 (aN l 0) (aN l 1) (aI l 2) (aI l 3) (aRg l 7) (mmk l)
def μ_rcrash_2 (l : List At) : Nat := ((aRn l 8 : Int) - aI l 3).toNat

theorem rtmod_ok {v s : Int} (hv : 0 ≤ v) (hs : 0 ≤ s) : 0 ≤ Int.tmod v (s + 1) ∧ Int.tmod v (s + 1) ≤ s ∧ Int.tmod v (s + 1) = v % (s + 1) := by
  have e := Int.tmod_eq_emod_of_nonneg (b := s + 1) hv
  rw [e]
  have h1 := Int.emod_nonneg v (b := s + 1) (by omega)
  have h2 := Int.emod_lt_of_pos v (b := s + 1) (by omega)
  exact ⟨h1, by omega, rfl⟩

theorem rd_rcrash_2 : ∀ l r, (OL_rcrash_2 l).val = some r → RoundS BL_rcrash_2 OL_rcrash_2 μ_rcrash_2 l r := by
  intro l r h
  obtain ⟨hc, h⟩ := guard_val h
  obtain ⟨⟨c0, c1⟩, c3, ⟨c4, c5⟩, c6, c7⟩ := of_pdec hc
  unfold RoundS BL_rcrash_2 B_rcrash_2
  simp only [mmk] at c3 c4 c5 c6 h
  generalize hx0 : aN l 0 = x0 at *
  generalize hx1 : aN l 1 = x1 at *
  generalize hx2 : aI l 2 = x2 at *
  generalize hx3 : aI l 3 = x3 at *
  generalize hn : aRn l 8 = n at *
  generalize hS : aRg l 8 = S at *
  generalize hk : aRn l 9 = k at *
  generalize hg : aRg l 9 = g at *
  generalize hh : aMh l 9 0 10 = hm at *
  generalize hn7 : aRn l 7 = n7 at *
  generalize hg7 : aRg l 7 = g7 at *
  generalize hb : aB l 4 = x4 at *
  generalize hb3 : aI l 5 = x5 at *
  generalize hb4 : aI l 6 = x6 at *
  refine brD (fun h1 => brT (by simp [within]; omega) ?_) (fun h1 => ?_)
  · have hw : IntKind.i64.wrap (x3 + 1) = x3 + 1 := wrap_i64 (by omega) (by omega)
    have hw2 : IntKind.i64.wrap (x2 + 1) = x2 + 1 := wrap_i64 (by omega) (by omega)
    have e2 : (x3 + 1).toNat = x3.toNat + 1 := by omega
    have e2' : (x2 + 1).toNat = x2.toNat + 1 := by omega
    have hμ : ((n : Int) - (x3 + 1)).toNat < μ_rcrash_2 l := by unfold μ_rcrash_2; rw [hn, hx3]; omega
    have ho := c6 x3.toNat (Nat.le_refl _) (by omega)
    obtain ⟨o1, o2, o3⟩ := ho
    rw [hw, hw2, Int.toNat_of_nonneg o1, wrap_i64 (x := g x3.toNat 0 + 1) (by omega) (by omega)]
    refine brQ (fun h2 => ?_) (fun h2 => ?_)
    · have key := crF_skip ⟨n, S, k, g, hm, x4, x5, x6⟩ (fun j => g7 (x0 + j) 0) x1 x2.toNat x3.toNat h2
      rw [← e2] at key
      rw [← key] at h
      have hq : rpC x1 x2 (x3 + 1) (fun j => g7 (x0 + j) 0) ⟨n, S, k, g, hm, x4, x5, x6⟩ := ⟨⟨c0, by omega⟩, by show x3 + 1 ≤ (n : Int); omega, ⟨c4, c5⟩, fun i h5 h6 => c6 i (by omega) h6, c7⟩
      exact on_ _ r (AtsEq.refl _) hμ ((br_t (g := 0) (pdec_yes hq)).trans h) rfl (AtsEq.refl _)
    · have hpos : g x3.toNat 0 > 0 := by omega
      have hq : ∀ m : Int, rpC x1 (x2 + 1) (x3 + 1) (fun j => g7 (x0 + j) 0) (RMem.cr1 ⟨n, S, k, g, hm, x4, x5, x6⟩ x3.toNat m) := fun m => ⟨⟨by omega, by omega⟩, by show x3 + 1 ≤ (n : Int); omega, ⟨c4, c5⟩, fun i h5 h6 => by
        show RRowOk (updG (updG g _ 0 _) x3.toNat 0 0 i 0) (updR hm _ _ i)
        have hne : i ≠ x3.toNat := by omega
        have hne2 : i ≠ (x3.toNat : Int).toNat := by omega
        rw [updG_row, updR_ne hne, updG_row, updR_ne hne2, updR_ne hne2]
        exact c6 i (by omega) h6, c7⟩
      have go : ∀ m : Int, 0 ≤ m → m ≤ g x3.toNat 0 → m.toNat = crK (fun j => g7 (x0 + j) 0) x1 x2.toNat (g x3.toNat 0) →
          (Tr.br 0 (pdec (RMem.hasOk ⟨n, S, k, g, hm, x4, x5, x6⟩ x3 m)) (.br 57 (within x3 (RMem.suM ⟨n, S, k, g, hm, x4, x5, x6⟩ x3 m).k) (.br 0 true (.ok (Ex.normal, [At.n x0, .n x1, .i (x2 + 1), .i (x3 + 1), .b (RMem.suM ⟨n, S, k, g, hm, x4, x5, x6⟩ x3 m).off, .i (RMem.suM ⟨n, S, k, g, hm, x4, x5, x6⟩ x3 m).left, .i (RMem.suM ⟨n, S, k, g, hm, x4, x5, x6⟩ x3 m).count, .r n7 g7,
            .r (RMem.suM ⟨n, S, k, g, hm, x4, x5, x6⟩ x3 m).n (RMem.suM ⟨n, S, k, g, hm, x4, x5, x6⟩ x3 m).S, .q (RMem.suM ⟨n, S, k, g, hm, x4, x5, x6⟩ x3 m).k (updG (RMem.suM ⟨n, S, k, g, hm, x4, x5, x6⟩ x3 m).G x3.toNat 0 0) 0 10 (RMem.suM ⟨n, S, k, g, hm, x4, x5, x6⟩ x3 m).L])) .no) .no) .no).sat
            fun p => (p.1 = .normal ∧ ∃ l2 r', AtsEq p.2 l2 ∧ μ_rcrash_2 l2 < μ_rcrash_2 l ∧ (OL_rcrash_2 l2).val = some r' ∧ r'.1 = r.1 ∧ AtsEq r'.2 r.2) ∨ (p.1 ≠ .normal ∧ r.1 = p.1 ∧ AtsEq p.2 r.2) := by
        intro m m0 m1 m2
        refine brT (pdec_yes ⟨m0, ⟨by omega, h1⟩, c4, m1, o1, o2, o3⟩) (brT (by show within x3 k = true; simp [within]; omega) (brT rfl ?_))
        have hx : ((x3.toNat : Nat) : Int) = x3 := by omega
        have key := crF_step ⟨n, S, k, g, hm, x4, x5, x6⟩ (fun j => g7 (x0 + j) 0) x1 x2.toNat x3.toNat (by show x3.toNat < n; omega) hpos m m2
        have hqm := hq m
        unfold RMem.cr1 at key hqm
        rw [hx] at key hqm
        rw [← e2, ← e2'] at key
        have hr := val_ok h
        subst hr
        exact on_ _ (.exit 0, _) (AtsEq.refl _) hμ (br_t (g := 0) (pdec_yes hqm)) rfl key
      refine brD (fun h3 => ?_) (fun h3 => ?_)
      · have hx2' : x2.toNat < x1 := by omega
        have hkv : kv (fun j => g7 (x0 + j) 0) x1 x2.toNat = if g7 (x0 + x2.toNat) 0 < 0 then -(g7 (x0 + x2.toNat) 0 + 1) else g7 (x0 + x2.toNat) 0 := by
          unfold kv; rw [if_pos hx2']
        have q12 : -9223372036854775808 ≤ g7 (x0 + x2.toNat) 0 ∧ g7 (x0 + x2.toNat) 0 ≤ 9223372036854775807 := c7 x2.toNat hx2'
        obtain ⟨q1, q2⟩ := q12
        refine brT (by simp [within]; omega) (brD (fun h4 => ?_) (fun h4 => ?_))
        · rw [wrap_i64 (x := g7 (x0 + x2.toNat) 0 + 1) (by omega) (by omega), wrap_i64 (x := 0 - (g7 (x0 + x2.toNat) 0 + 1)) (by omega) (by omega)]
          obtain ⟨t1, t2, t3⟩ := rtmod_ok (v := 0 - (g7 (x0 + x2.toNat) 0 + 1)) (s := g x3.toNat 0) (by omega) o1
          refine brT (by simp [within]; omega) (brNE (fun _ => go _ t1 t2 ?_) (fun hh => by exfalso; omega))
          rw [t3]; unfold crK; rw [hkv, if_pos h4, show 0 - (g7 (x0 + x2.toNat) 0 + 1) = -(g7 (x0 + x2.toNat) 0 + 1) by omega]
        · obtain ⟨t1, t2, t3⟩ := rtmod_ok (v := g7 (x0 + x2.toNat) 0) (s := g x3.toNat 0) (by omega) o1
          refine brT (by simp [within]; omega) (brNE (fun _ => go _ t1 t2 ?_) (fun hh => by exfalso; omega))
          rw [t3]; unfold crK; rw [hkv, if_neg h4]
      · have hx2' : ¬ x2.toNat < x1 := by omega
        obtain ⟨t1, t2, t3⟩ := rtmod_ok (v := 0) (s := g x3.toNat 0) (by omega) o1
        refine brF rfl (brT (by simp [within]; omega) (brNE (fun _ => go _ t1 t2 ?_) (fun hh => by exfalso; omega)))
        rw [t3]; unfold crK kv; rw [if_neg hx2']
  · rw [crF_end _ _ _ _ _ (by show n ≤ x3.toNat; omega)] at h
    have hr := val_ok h
    subst hr
    exact out_ (by simp) rfl (AtsEq.refl _)
end Go.Proofs.Ytgmhggipaopoiaa.G
end

/-
  What functions of the seat compute, printed by a program from the explorer.
-/
section
namespace Go.Proofs.Ytgmhggipaopoiaa.G
open Go Go.AM Go.Proofs
theorem f_rcrash_2 : LoopF Try.prog 5 (loopAt Try.f31 2) (loopFn 5 lsh_rcrash_2 xs_rcrash_2 OL_rcrash_2) :=
  loop_sat (sy := y_rcrash_2) (fuel := 100) (Lp := noLoops) o_RS2 mixed (loopsOK_at (noLoops_ok _) 2) rfl eB_rcrash_2 rd_rcrash_2
noncomputable def Lp_rcrash_2 : Loops := Loops.set noLoops 2 (loopFn 5 lsh_rcrash_2 xs_rcrash_2 OL_rcrash_2)
theorem lk_rcrash_2 : LoopsFn Try.prog 5 Lp_rcrash_2 Try.f31 := loopsFn_set (noLoops_ok _) (by kernel_rfl) f_rcrash_2

/-! ### rcrash -/

noncomputable def ish_rcrash : FSh := ⟨[.v false [.p 0 0], .v false [.vw 1 1]], [.cells [.sw 2 8, .sw 3 1, .k .b, .k (.n .i64), .k (.n .i64)], .rows [.n .i64] false, .rows [.n .u64, .n .u64, .n .u64, .n .u64, .n .u64, .n .u64, .n .u64, .n .u64] true, .nrows [.n .i64] 0 [.n .i64, .n .u64, .b, .b, .b, .b, .b, .b, .b, .b] 4 false true, .no]⟩
noncomputable def osh_rcrash : FSh := ⟨[.tup []], [.cells [.sw 2 8, .sw 3 1, .k .b, .k (.n .i64), .k (.n .i64)], .no, .rows [.n .u64, .n .u64, .n .u64, .n .u64, .n .u64, .n .u64, .n .u64, .n .u64] true, .nrows [.n .i64] 0 [.n .i64, .n .u64, .b, .b, .b, .b, .b, .b, .b, .b] 5 false true, .no, .no]⟩
noncomputable def T_rcrash (x0 : Bool) (x1 : Int) (x2 : Int) (n3 : Nat) (g3 : Nat → Nat → Int) (n4 : Nat) (g4 : Nat → Nat → Int) (n5 : Nat) (g5 : Nat → Nat → Int) (h5 : Nat → Nat → Int) : Tr (List At) :=
 .br 0 (pdec (rpC n3 (0 : Int) (0 : Int) (fun (j : Nat) => g3 ((0 : Nat) + j) (0 : Nat)) { n := n4, S := g4, k := n5, G := g5, L := h5, off := x0, left := x1, count := x2 }))
 (.ok [(.b (Bool.false)), (.i ((-1 : Int))), (.i ((RMem.crF { n := n4, S := g4, k := n5, G := g5, L := h5, off := x0, left := x1, count := x2 } (fun (j : Nat) => g3 ((0 : Nat) + j) (0 : Nat)) n3 (0 : Nat) (0 : Nat)).count)), (.r ((RMem.crF { n := n4, S := g4, k := n5, G := g5, L := h5, off := x0, left := x1, count := x2 } (fun (j : Nat) => g3 ((0 : Nat) + j) (0 : Nat)) n3 (0 : Nat) (0 : Nat)).n) ((RMem.crF { n := n4, S := g4, k := n5, G := g5, L := h5, off := x0, left := x1, count := x2 } (fun (j : Nat) => g3 ((0 : Nat) + j) (0 : Nat)) n3 (0 : Nat) (0 : Nat)).S)), (.q ((RMem.crF { n := n4, S := g4, k := n5, G := g5, L := h5, off := x0, left := x1, count := x2 } (fun (j : Nat) => g3 ((0 : Nat) + j) (0 : Nat)) n3 (0 : Nat) (0 : Nat)).k) ((RMem.crF { n := n4, S := g4, k := n5, G := g5, L := h5, off := x0, left := x1, count := x2 } (fun (j : Nat) => g3 ((0 : Nat) + j) (0 : Nat)) n3 (0 : Nat) (0 : Nat)).G) ((0 : Nat)) ((10 : Nat)) ((RMem.crF { n := n4, S := g4, k := n5, G := g5, L := h5, off := x0, left := x1, count := x2 } (fun (j : Nat) => g3 ((0 : Nat) + j) (0 : Nat)) n3 (0 : Nat) (0 : Nat)).L))])
 (.no)
noncomputable def y_rcrash : Nat → Option Nat := (syOf3 [] [] [])
noncomputable def TL_rcrash (l : List At) : Tr (List At) := T_rcrash (aB l 0) (aI l 1) (aI l 2) (aRn l 3) (aRg l 3) (aRn l 4) (aRg l 4) (aRn l 5) (aRg l 5) (aMh l 5 0 10)
theorem e_rcrash (l : List At) : (call Try.prog Γ_RS2 y_rcrash Lp_rcrash_2 100 Try.f31 (mkV ish_rcrash l) (mkH ish_rcrash l)).bind (leafO 5 osh_rcrash) = TL_rcrash l := by kernel_rfl
end Go.Proofs.Ytgmhggipaopoiaa.G
end

/-
  All calls of the reference's memory, in plain words.
-/
section
namespace Go.Proofs.Ytgmhggipaopoiaa.G
open Go Go.AM Go.Proofs

/-! ### plain words -/

def RMem.ldC (y : RMem) (i : Int) : Int := bif !y.is i then 1 else bif y.off then 4 else 0
def RMem.ldW (y : RMem) (i : Int) (c : Nat) : Int := bif y.ldC i == 0 then rsS (y.S i.toNat) (y.L i.toNat) (y.G i.toNat 0).toNat c else 0
def RMem.feC (y : RMem) (c : Int) : Int := bif corR c then 1 else y.cod
def RMem.feM (y : RMem) (c : Int) : RMem := bif corR c then y else bif y.po then y.stp else y.stp.feF c.toNat 0
def RMem.fuM (y : RMem) (x : Int) : RMem := ⟨y.n, y.S, y.k, y.G, y.L, y.off, if -1 > x then -1 else x, y.count⟩
def RMem.crM (y : RMem) (q : Nat → Int) (kn : Nat) : RMem := ⟨y.n, (y.crF q kn 0 0).S, y.k, (y.crF q kn 0 0).G, y.L, false, -1, y.count⟩
def rnewR (n : Nat) (S : Nat → Nat → Int) : RMem := ⟨n, S, n, fun _ _ => 0, fun _ _ => 0, false, -1, 0⟩

/-! ### a memory stays one that may be -/

theorem ris_yes {y : RMem} {i : Int} (h : y.is i = true) : 0 ≤ i ∧ i < y.n := by
  unfold RMem.is at h
  simpa using h
theorem rbad_no {y : RMem} {i x : Int} (h : y.bad i x = false) : (0 ≤ i ∧ i < y.n) ∧ 0 ≤ x ∧ x < 8 := by
  unfold RMem.bad at h
  simp only [Bool.or_eq_false_iff, decide_eq_false_iff_not, Bool.not_eq_false'] at h
  exact ⟨ris_yes h.1.1, by omega, by omega⟩
theorem rleft_ok {y : RMem} {K : Int} (h : y.Ok K) : -1 ≤ y.stp.left ∧ y.stp.left ≤ 9223372036854775807 := by
  show -1 ≤ rleftI y.off y.left ∧ rleftI y.off y.left ≤ 9223372036854775807
  have := h.1
  unfold rleftI
  cases rpoB y.off y.left with
  | true => exact this
  | false =>
    show -1 ≤ (bif decide (y.left > 0) then y.left - 1 else y.left) ∧ (bif decide (y.left > 0) then y.left - 1 else y.left) ≤ 9223372036854775807
    by_cases hl : y.left > 0
    · rw [decide_eq_true hl]; show -1 ≤ y.left - 1 ∧ y.left - 1 ≤ _; omega
    · rw [decide_eq_false hl]; exact this
theorem rcount_stp (y : RMem) : y.stp.count = if y.po then y.count else y.count + 1 := by
  show rcntI y.off y.left y.count = _
  unfold rcntI RMem.po
  cases rpoB y.off y.left <;> rfl
theorem rstp_ok {y : RMem} {K : Int} (h : y.Ok K) : y.stp.Ok (K + 1) := by
  have hs : y.stp.count = y.count ∨ y.stp.count = y.count + 1 := by rw [rcount_stp]; split <;> simp
  refine ⟨rleft_ok h, ⟨?_, ?_⟩, h.2.2.1, fun i hi => ⟨(h.2.2.2 i hi).1, ?_⟩⟩
  · have := h.2.1.1; omega
  · have := h.2.1.2; omega
  · show y.G i 0 ≤ y.stp.count
    have := (h.2.2.2 i hi).2
    omega
theorem rpo_no {y : RMem} (h : y.po = false) : y.stp.count = y.count + 1 := by rw [rcount_stp, h]; rfl
theorem rwit_ok {y : RMem} {K : Int} {S G L : Nat → Nat → Int} (h : y.Ok K) (hr : ∀ i, i < y.n → RRowOk (G i 0) (L i) ∧ G i 0 ≤ y.count) : (y.wit S G L).Ok K := ⟨h.1, h.2.1, h.2.2.1, hr⟩

theorem rrow_st {c w v : Int} {hr : Nat → Int} (h : RRowOk c hr) (hc : c < 1000000) (hw : 0 ≤ w ∧ w < 8) : RRowOk (c + 1) (rstR hr c.toNat w v) := by
  obtain ⟨h1, h2, h3⟩ := h
  refine ⟨by omega, by omega, fun j hj => ?_⟩
  unfold rstR
  by_cases hjc : j < c.toNat
  · rw [if_pos (by omega)]; exact h3 j (by omega)
  · rw [if_neg (by omega), if_pos (by omega)]; exact hw
theorem rrow_su {c m : Int} {hr : Nat → Int} (h : RRowOk c hr) (hm : 0 ≤ m ∧ m ≤ c) : RRowOk (c - m) (rsL hr m.toNat) := by
  obtain ⟨h1, h2, h3⟩ := h
  refine ⟨by omega, by omega, fun j hj => ?_⟩
  unfold rsL
  rw [show j * 10 + 10 * m.toNat = (j + m.toNat) * 10 by omega]
  exact h3 (j + m.toNat) (by omega)
theorem rrow_fl {c : Int} {hr : Nat → Int} {k core : Nat} (h : RRowOk c hr) : RRowOk c (rflR hr k core) := by
  obtain ⟨h1, h2, h3⟩ := h
  refine ⟨h1, h2, fun j hj => ?_⟩
  unfold rflR
  rw [if_neg (by omega)]
  exact h3 j hj

theorem rstM_ok {y : RMem} {K : Int} {i w v : Int} (h : y.Ok K) (hK : K < 1000000) : (y.stM i w v).Ok (K + 1) := by
  unfold RMem.stM
  cases hb : y.bad i w with
  | true => exact h.mono (by omega)
  | false =>
    cases hp : y.po with
    | true => exact rstp_ok h
    | false =>
      obtain ⟨⟨h0, h1⟩, h2, h3⟩ := rbad_no hb
      refine rwit_ok (rstp_ok h) fun j hj => ?_
      obtain ⟨hr, hs⟩ := h.2.2.2 j hj
      have hK2 := h.2.1.2
      rw [rpo_no hp, updG_row]
      by_cases hji : j = i.toNat
      · subst hji
        rw [updR_self, updR_self, if_pos rfl]
        exact ⟨rrow_st hr (by omega) ⟨h2, h3⟩, by omega⟩
      · rw [updR_ne hji, updR_ne hji]
        exact ⟨hr, by omega⟩
theorem rflM_ok {y : RMem} {K : Int} {c i : Int} (h : y.Ok K) : (y.flM c i).Ok (K + 1) := by
  unfold RMem.flM
  cases hb : (corR c || !y.is i) with
  | true => exact h.mono (by omega)
  | false =>
    cases hp : y.po with
    | true => exact rstp_ok h
    | false =>
      refine rwit_ok (rstp_ok h) fun j hj => ?_
      obtain ⟨hr, hs⟩ := h.2.2.2 j hj
      rw [rpo_no hp]
      by_cases hji : j = i.toNat
      · subst hji
        rw [updR_self]
        exact ⟨rrow_fl hr, by omega⟩
      · rw [updR_ne hji]
        exact ⟨hr, by omega⟩
theorem rfeF_ok {y : RMem} {K : Int} {core : Nat} (h : y.Ok K) : (y.feF core 0).Ok K := by
  refine rwit_ok h fun j hj => ?_
  obtain ⟨hr, hs⟩ := h.2.2.2 j hj
  have hle := lastF_le (y.L j) core (y.G j 0).toNat
  have h1 := hr.1
  rw [if_pos ⟨rfl, Nat.zero_le _, hj⟩, if_pos ⟨Nat.zero_le _, hj⟩]
  have e : y.fk core j = ((y.fk core j : Nat) : Int).toNat := (Int.toNat_natCast _).symm
  have hk : ((y.fk core j : Nat) : Int) ≤ y.G j 0 := by unfold RMem.fk; omega
  have := rrow_su hr (m := ((y.fk core j : Nat) : Int)) ⟨by omega, hk⟩
  rw [← e] at this
  exact ⟨this, by omega⟩
theorem rfeM_ok {y : RMem} {K : Int} {c : Int} (h : y.Ok K) : (y.feM c).Ok (K + 1) := by
  unfold RMem.feM
  cases hb : corR c with
  | true => exact h.mono (by omega)
  | false =>
    cases hp : y.po with
    | true => exact rstp_ok h
    | false => exact rfeF_ok (rstp_ok h)
theorem rfuM_ok {y : RMem} {K : Int} {x : Int} (h : y.Ok K) (hx : x ≤ 9223372036854775807) : (y.fuM x).Ok K := by
  refine ⟨?_, h.2.1, h.2.2.1, h.2.2.2⟩
  show -1 ≤ (if -1 > x then -1 else x) ∧ (if -1 > x then -1 else x) ≤ 9223372036854775807
  split <;> omega
theorem rcrM_ok {y : RMem} {K : Int} {q : Nat → Int} {kn : Nat} (h : y.Ok K) : (y.crM q kn).Ok K := by
  refine ⟨⟨by show (-1 : Int) ≤ -1; decide, by show (-1 : Int) ≤ 9223372036854775807; decide⟩, h.2.1, h.2.2.1, fun i hi => ?_⟩
  have e : (y.crM q kn).G i 0 = 0 := if_pos ⟨rfl, Nat.zero_le _, hi⟩
  rw [e]
  exact ⟨⟨Int.le_refl _, by decide, fun j hj => by omega⟩, h.2.1.1⟩
theorem rnewR_ok {n : Nat} {S : Nat → Nat → Int} (h : n ≤ 1073741824) : (rnewR n S).Ok 0 := ⟨⟨by show (-1 : Int) ≤ -1; decide, by show (-1 : Int) ≤ 9223372036854775807; decide⟩, ⟨by show (0 : Int) ≤ 0; decide, by show (0 : Int) ≤ 0; decide⟩, ⟨rfl, h⟩, fun i _ => ⟨⟨Int.le_refl _, by show (0 : Int) ≤ 1000000; decide, fun j hj => by have : (j : Int) < 0 := hj; omega⟩, by show (0 : Int) ≤ 0; decide⟩⟩

/-! ### the calls -/

theorem rcod_po {y : RMem} (h : ¬ y.cod = 0) : y.po = true := by
  unfold RMem.cod rcodI at h
  unfold RMem.po
  cases hp : rpoB y.off y.left with
  | true => rfl
  | false => rw [hp] at h; exact (h rfl).elim
theorem rpo_cod {y : RMem} (h : y.po = false) : y.cod = 0 := by
  unfold RMem.po at h
  unfold RMem.cod rcodI
  rw [h]; rfl
theorem rcod_no {y : RMem} (h : y.cod = 0) : y.po = false := by
  unfold RMem.cod rcodI at h
  unfold RMem.po
  cases hp : rpoB y.off y.left with
  | true => rw [hp] at h; exact absurd h (by decide)
  | false => rfl

theorem rstOk {y : RMem} (h : y.Ok 900000) : stepOk y.left y.count := ⟨h.1, h.2.1.1, by have := h.2.1.2; omega⟩
theorem rhasOk {y : RMem} (h : y.Ok 900000) {i m : Int} (hi : 0 ≤ i ∧ i < y.n) (hm : 0 ≤ m ∧ m ≤ y.G i.toNat 0) : y.hasOk i m := ⟨hm.1, hi, h.2.2.1.1, hm.2, (h.2.2.2 i.toNat (by omega)).1⟩

theorem t_rstore (y : RMem) (i w v : Int) (h : y.Ok 900000) : (T_rstore i w v y.off y.left y.count y.n y.S y.k y.G y.L).sat fun r => AtsEq r (.i (y.stC i w) :: (y.stM i w v).ats) := by
  have bad : y.bad i w = true → AtsEq [.i 1, .b y.off, .i y.left, .i y.count, .r y.n y.S, .q y.k y.G 0 10 y.L] (.i (y.stC i w) :: (y.stM i w v).ats) := fun h => by
    unfold RMem.stC RMem.stM; rw [h]; exact AtsEq.refl _
  unfold T_rstore
  refine brN (fun h1 => Tr.sat_ok.2 (bad (by unfold RMem.bad; rw [show y.is i = false from h1]; rfl))) (fun h1 => brD (fun h2 => Tr.sat_ok.2 (bad (by unfold RMem.bad; rw [decide_eq_true h2]; simp))) fun h2 => brD (fun h3 => Tr.sat_ok.2 (bad (by unfold RMem.bad; rw [decide_eq_true h3]; simp))) fun h3 => ?_)
  have hb : y.bad i w = false := by unfold RMem.bad; rw [show y.is i = true from h1, decide_eq_false h2, decide_eq_false h3]; rfl
  obtain ⟨⟨g0, g1⟩, g2, g3⟩ := rbad_no hb
  have hk := h.2.2.1.1
  obtain ⟨⟨o1, o2, _⟩, _⟩ := h.2.2.2 i.toNat (by omega)
  refine brT (pdec_yes (rstOk h)) (brQ (fun h4 => brT (by simp [within]; omega) (brT (by simp; omega) (brT (by simp; omega) (brT (by simp [within]; omega) (brT rfl (Tr.sat_ok.2 ?_)))))) (fun h4 => Tr.sat_ok.2 ?_))
  · have hp := rcod_no h4
    unfold RMem.stC RMem.stM
    rw [hb, hp]
    have e2 : (((y.G i.toNat 0).toNat + 1 : Nat) : Int) = y.G i.toNat 0 + 1 := by omega
    rw [e2]
    refine atsEq_cons (AtEq.refl _) (atsEq_cons (AtEq.refl _) (atsEq_cons (AtEq.refl _) (atsEq_cons (AtEq.refl _) (atsEq_cons (AtEq.refl _) (atsEq_cons (atEq_qe rfl ?_) atsEq_nil)))))
    funext j k
    show putM y.L i.toNat 10 (appG (fun j c => y.L i.toNat ((0 + j) * 10 + c)) (y.G i.toNat 0).toNat (rowsF [[w, v, 0, 0, 0, 0, 0, 0, 0, 0]])) j k = updR y.L i.toNat (rstR (y.L i.toNat) (y.G i.toNat 0).toNat w v) j k
    unfold putM updR rstR appG
    by_cases hj : j = i.toNat
    · rw [if_pos hj, if_pos hj]
      by_cases hc : k / 10 < (y.G i.toNat 0).toNat
      · rw [if_pos hc, if_pos hc]
        exact congrArg (y.L i.toNat) (by omega)
      · rw [if_neg hc, if_neg hc]
        have hlt : k % 10 < 10 := Nat.mod_lt _ (by decide)
        generalize k % 10 = m at hlt
        match m, hlt with
        | 0, _ | 1, _ | 2, _ | 3, _ | 4, _ | 5, _ | 6, _ | 7, _ | 8, _ | 9, _ => rfl
    · rw [if_neg hj, if_neg hj]
  · have hp := rcod_po h4
    unfold RMem.stC RMem.stM
    rw [hb, hp]
    exact AtsEq.refl _

noncomputable def F2_rstore (l : List At) : Tr (List At) := .br 0 (pdec (RMem.Ok 900000 (mmr l 3))) (.ok (.i ((mmr l 3).stC (aI l 0) (aI l 1)) :: ((mmr l 3).stM (aI l 0) (aI l 1) (aI l 2)).ats)) .no
theorem s2_rstore : SpecF Try.prog 42 (.eff (locF ish_rstore osh_rstore F2_rstore)) :=
  spec_loc (sy := y_rstore) (fuel := 100) (Lp := noLoops) o_rload mixed ⟨Try.func42, by kernel_rfl, by kernel_rfl⟩ ish_rstore osh_rstore (noLoops_ok _) (hT_of e_rstore fun l r h => by
    obtain ⟨h1, h⟩ := guard_val h
    have := val_ok h
    subst this
    exact t_rstore (mmr l 3) _ _ _ (of_pdec h1))

theorem t_rflush (y : RMem) (c i : Int) (h : y.Ok 900000) : (T_rflush c i y.off y.left y.count y.n y.S y.k y.G y.L).sat fun r => AtsEq r (.i (y.flC c i) :: (y.flM c i).ats) := by
  have bad : (corR c || !y.is i) = true → AtsEq [.i 1, .b y.off, .i y.left, .i y.count, .r y.n y.S, .q y.k y.G 0 10 y.L] (.i (y.flC c i) :: (y.flM c i).ats) := fun h => by
    unfold RMem.flC RMem.flM; rw [h]; exact AtsEq.refl _
  unfold T_rflush
  refine brD (fun h2 => Tr.sat_ok.2 (bad (by unfold corR; rw [decide_eq_true h2]; rfl))) fun h2 => brD (fun h3 => Tr.sat_ok.2 (bad (by unfold corR; rw [decide_eq_true h3]; simp))) fun h3 => brN (fun h1 => Tr.sat_ok.2 (bad (by rw [show y.is i = false from h1]; simp))) (fun h1 => ?_)
  have hb : (corR c || !y.is i) = false := by unfold corR; rw [show y.is i = true from h1, decide_eq_false h2, decide_eq_false h3]; rfl
  obtain ⟨g0, g1⟩ := ris_yes (y := y) h1
  have hk := h.2.2.1.1
  obtain ⟨⟨o1, o2, _⟩, _⟩ := h.2.2.2 i.toNat (by omega)
  refine brT (pdec_yes (rstOk h)) (brQ (fun h4 => brT (pdec_yes ⟨by omega, by omega, by omega, o1, o2⟩) (Tr.sat_ok.2 ?_)) (fun h4 => Tr.sat_ok.2 ?_))
  · have hp := rcod_no h4
    unfold RMem.flC RMem.flM
    rw [hb, hp, Int.sub_zero, rflF_all]
    exact AtsEq.refl _
  · have hp := rcod_po h4
    unfold RMem.flC RMem.flM
    rw [hb, hp]
    exact AtsEq.refl _

noncomputable def F2_rflush (l : List At) : Tr (List At) := .br 0 (pdec (RMem.Ok 900000 (mmr l 2))) (.ok (.i ((mmr l 2).flC (aI l 0) (aI l 1)) :: ((mmr l 2).flM (aI l 0) (aI l 1)).ats)) .no
theorem s2_rflush : SpecF Try.prog 43 (.eff (locF ish_rflush osh_rflush F2_rflush)) :=
  spec_loc (sy := y_rflush) (fuel := 100) (Lp := Lp_rflush_6) o_RS2 mixed ⟨Try.func43, by kernel_rfl, by kernel_rfl⟩ ish_rflush osh_rflush lk_rflush_6 (hT_of e_rflush fun l r h => by
    obtain ⟨h1, h⟩ := guard_val h
    have := val_ok h
    subst this
    exact t_rflush (mmr l 2) _ _ (of_pdec h1))

theorem t_rfence (y : RMem) (c : Int) (h : y.Ok 900000) : (T_rfence c y.off y.left y.count y.n y.S y.k y.G y.L).sat fun r => AtsEq r (.i (y.feC c) :: (y.feM c).ats) := by
  have bad : corR c = true → AtsEq [.i 1, .b y.off, .i y.left, .i y.count, .r y.n y.S, .q y.k y.G 0 10 y.L] (.i (y.feC c) :: (y.feM c).ats) := fun h => by
    unfold RMem.feC RMem.feM; rw [h]; exact AtsEq.refl _
  unfold T_rfence
  refine brD (fun h2 => Tr.sat_ok.2 (bad (by unfold corR; rw [decide_eq_true h2]; rfl))) fun h2 => brD (fun h3 => Tr.sat_ok.2 (bad (by unfold corR; rw [decide_eq_true h3]; simp))) fun h3 => ?_
  have hb : corR c = false := by unfold corR; rw [decide_eq_false h2, decide_eq_false h3]; rfl
  have hk := h.2.2.1
  refine brT (pdec_yes (rstOk h)) (brNE (fun h4 => Tr.sat_ok.2 ?_) (fun h4 => brT (pdec_yes ⟨by omega, ⟨by omega, by omega⟩, hk, fun i _ hi => (h.2.2.2 i hi).1⟩) (Tr.sat_ok.2 ?_)))
  · have hp := rcod_po h4
    unfold RMem.feC RMem.feM
    rw [hb, hp]
    exact AtsEq.refl _
  · have hp := rcod_no h4
    unfold RMem.feC RMem.feM
    rw [hb, hp]
    exact atsEq_cons (by show At.i 0 = At.i y.cod; rw [rpo_cod hp]) (AtsEq.refl _)

noncomputable def F2_rfence (l : List At) : Tr (List At) := .br 0 (pdec (RMem.Ok 900000 (mmr l 1))) (.ok (.i ((mmr l 1).feC (aI l 0)) :: ((mmr l 1).feM (aI l 0)).ats)) .no
theorem s2_rfence : SpecF Try.prog 44 (.eff (locF ish_rfence osh_rfence F2_rfence)) :=
  spec_loc (sy := y_rfence) (fuel := 100) (Lp := Lp_rfence_7) o_RS2 mixed ⟨Try.func44, by kernel_rfl, by kernel_rfl⟩ ish_rfence osh_rfence lk_rfence_7 (hT_of e_rfence fun l r h => by
    obtain ⟨h1, h⟩ := guard_val h
    have := val_ok h
    subst this
    exact t_rfence (mmr l 1) _ (of_pdec h1))

noncomputable def F2_rfuse (l : List At) : Tr (List At) := .ok ((mmr l 1).fuM (aI l 0)).ats
theorem s2_rfuse : SpecF Try.prog 28 (.eff (locF ish_rfuse osh_rfuse F2_rfuse)) :=
  spec_loc (sy := y_rfuse) (fuel := 100) (Lp := noLoops) o_rstore mixed ⟨Try.func28, by kernel_rfl, by kernel_rfl⟩ ish_rfuse osh_rfuse (noLoops_ok _) (hT_of e_rfuse fun l r h => by
    have := val_ok h
    subst this
    exact Tr.sat_ok.2 (AtsEq.refl _))

def mmK (l : List At) : RMem := ⟨aRn l 4, aRg l 4, aRn l 5, aRg l 5, aMh l 5 0 10, aB l 0, aI l 1, aI l 2⟩
noncomputable def F2_rcrash (l : List At) : Tr (List At) := .br 0 (pdec (RMem.Ok 900000 (mmK l))) (.br 0 (pdec (KeepOk (fun j => aRg l 3 j 0) (aRn l 3))) (.ok ((mmK l).crM (fun j => aRg l 3 j 0) (aRn l 3)).ats) .no) .no
theorem t_rcrash (y : RMem) (n : Nat) (g : Nat → Nat → Int) (h : y.Ok 900000) (hq : KeepOk (fun j => g j 0) n) : (T_rcrash y.off y.left y.count n g y.n y.S y.k y.G y.L).sat fun r => AtsEq r (y.crM (fun j => g j 0) n).ats := by
  have e : (fun j => g (0 + j) 0) = fun j => g j 0 := by funext j; rw [Nat.zero_add]
  unfold T_rcrash
  rw [e]
  exact brT (pdec_yes ⟨⟨by decide, by decide⟩, Int.natCast_nonneg _, h.2.2.1, fun i _ hi => (h.2.2.2 i hi).1, hq⟩) (Tr.sat_ok.2 (AtsEq.refl _))
theorem s2_rcrash : SpecF Try.prog 31 (.eff (locF ish_rcrash osh_rcrash F2_rcrash)) :=
  spec_loc (sy := y_rcrash) (fuel := 100) (Lp := Lp_rcrash_2) o_RS2 mixed ⟨Try.func31, by kernel_rfl, by kernel_rfl⟩ ish_rcrash osh_rcrash lk_rcrash_2 (hT_of e_rcrash fun l r h => by
    obtain ⟨h1, h⟩ := guard_val h
    obtain ⟨h2, h⟩ := guard_val h
    have := val_ok h
    subst this
    exact t_rcrash (mmK l) _ _ (of_pdec h1) (of_pdec h2))

noncomputable def F2_rload (l : List At) : Tr (List At) := .br 0 (pdec (RMem.Ok 900000 (mmr l 1))) (.ok [.i ((mmr l 1).ldW (aI l 0) 0), .i ((mmr l 1).ldW (aI l 0) 1), .i ((mmr l 1).ldW (aI l 0) 2), .i ((mmr l 1).ldW (aI l 0) 3), .i ((mmr l 1).ldW (aI l 0) 4), .i ((mmr l 1).ldW (aI l 0) 5), .i ((mmr l 1).ldW (aI l 0) 6), .i ((mmr l 1).ldW (aI l 0) 7), .i ((mmr l 1).ldC (aI l 0))]) .no
theorem t_rload (y : RMem) (i : Int) (h : y.Ok 900000) : (T_rload i y.off y.left y.count y.n y.S y.k y.G y.L).sat fun r => AtsEq r [.i (y.ldW i 0), .i (y.ldW i 1), .i (y.ldW i 2), .i (y.ldW i 3), .i (y.ldW i 4), .i (y.ldW i 5), .i (y.ldW i 6), .i (y.ldW i 7), .i (y.ldC i)] := by
  have zero : y.ldC i ≠ 0 → AtsEq [.i 0, .i 0, .i 0, .i 0, .i 0, .i 0, .i 0, .i 0, .i (y.ldC i)] [.i (y.ldW i 0), .i (y.ldW i 1), .i (y.ldW i 2), .i (y.ldW i 3), .i (y.ldW i 4), .i (y.ldW i 5), .i (y.ldW i 6), .i (y.ldW i 7), .i (y.ldC i)] := fun h => by
    have e : ∀ c, y.ldW i c = 0 := fun c => by unfold RMem.ldW; rw [show (y.ldC i == 0) = false by simpa using h]; rfl
    simp only [e]; exact AtsEq.refl _
  unfold T_rload
  refine brN (fun h1 => Tr.sat_ok.2 ?_) (fun h1 => ?_)
  · have e : y.ldC i = 1 := by unfold RMem.ldC; rw [show y.is i = false from h1]; rfl
    have := zero (by rw [e]; decide)
    rw [e] at this ⊢
    exact this
  · have e : y.ldC i = bif y.off then 4 else 0 := by unfold RMem.ldC; rw [show y.is i = true from h1]; rfl
    refine brC (fun hf => Tr.sat_ok.2 ?_) (fun hf => ?_)
    · rw [hf] at e
      have := zero (by rw [e]; decide)
      rw [e] at this ⊢
      exact this
    · rw [hf] at e
      have e' : y.ldC i = 0 := e
      obtain ⟨g0, g1⟩ := ris_yes (y := y) h1
      have hk := h.2.2.1.1
      obtain ⟨⟨o1, o2, o3⟩, _⟩ := h.2.2.2 i.toNat (by omega)
      refine brT (by simp [within]; omega) (brT (pdec_yes (rhasOk h ⟨g0, g1⟩ (by omega))) (Tr.sat_ok.2 ?_))
      have ew : ∀ c, y.ldW i c = rsS (y.S i.toNat) (y.L i.toNat) (y.G i.toNat 0).toNat c := fun c => by unfold RMem.ldW; rw [e']; rfl
      simp only [ew, e', Int.toNat_natCast]
      exact AtsEq.refl _
theorem s2_rload : SpecF Try.prog 45 (.read (locR ish_rload osh_rload F2_rload)) :=
  spec_read (sy := y_rload) (fuel := 100) (Lp := noLoops) o_RS2 mixed ⟨Try.func45, by kernel_rfl, by kernel_rfl⟩ ish_rload osh_rload (by kernel_rfl) (noLoops_ok _) (hT_of e_rload fun l r h => by
    obtain ⟨h1, h⟩ := guard_val h
    have := val_ok h
    subst this
    exact t_rload (mmr l 1) _ (of_pdec h1))

noncomputable def F2_rnew (l : List At) : Tr (Nat × List At) := .br 0 (decide (aI l 0 < 64 ∨ aI l 0 > 1024)) (.ok (1, [.i 1])) (.ok (0, .i 0 :: (rnewR (aI l 0).toNat fun _ _ => 0).ats))
theorem s2_rnew : SpecF Try.prog 26 (.eff (locFs ish_rnew oshs_rnew F2_rnew)) :=
  spec_locs (sy := y_rnew) (fuel := 100) (Lp := noLoops) o_rof mixed ⟨Try.func26, by kernel_rfl, by kernel_rfl⟩ ish_rnew oshs_rnew (noLoops_ok _) (hT_ofS e_rnew fun l r h => by
    refine ⟨r, ?_, rfl, AtsEq.refl _⟩
    unfold F2_rnew at h
    rw [← h]
    unfold TL_rnew T_rnew
    generalize aI l 0 = x0
    by_cases h1 : x0 < 64
    · rw [show decide (x0 < 64) = true by simpa using h1, show decide (x0 < 64 ∨ x0 > 1024) = true by simp [h1]]; rfl
    · by_cases h2 : x0 > 1024
      · rw [show decide (x0 < 64) = false by simpa using h1, show decide (x0 > 1024) = true by simpa using h2, show decide (x0 < 64 ∨ x0 > 1024) = true by simp [h2]]; rfl
      · have e : ((x0.toNat : Nat) : Int) = x0 := by omega
        simp only [e]
        rw [show decide (x0 < 64) = false by simpa using h1, show decide (x0 > 1024) = false by simpa using h2, show decide (x0 < 64 ∨ x0 > 1024) = false by simp [h1, h2], show (decide (0 ≤ x0) && x0 == x0 && decide (x0 ≤ 1073741824)) = true by simp; omega, show decide (x0.toNat ≤ 1073741824) = true by simp; omega]; rfl)

noncomputable def Γ_RR2 : Specs := upd (upd (upd (upd (upd (upd (upd Γ_RS2 26 (.eff (locFs ish_rnew oshs_rnew F2_rnew))) 42 (.eff (locF ish_rstore osh_rstore F2_rstore))) 43 (.eff (locF ish_rflush osh_rflush F2_rflush))) 44 (.eff (locF ish_rfence osh_rfence F2_rfence))) 28 (.eff (locF ish_rfuse osh_rfuse F2_rfuse))) 31 (.eff (locF ish_rcrash osh_rcrash F2_rcrash))) 45 (.read (locR ish_rload osh_rload F2_rload))
theorem o_RR2 : SpecOK Try.prog Γ_RR2 := SpecOK.upd (SpecOK.upd (SpecOK.upd (SpecOK.upd (SpecOK.upd (SpecOK.upd (SpecOK.upd o_RS2 s2_rnew) s2_rstore) s2_rflush) s2_rfence) s2_rfuse) s2_rcrash) s2_rload
end Go.Proofs.Ytgmhggipaopoiaa.G
end

/-
  The memory and the reference's go side by side.
-/
section
namespace Go.Proofs.Ytgmhggipaopoiaa.G
open Go Go.AM Go.Proofs

theorem lastF_congr {L L' : Nat → Int} {co : Nat} : ∀ m, (∀ k, k < m → L (k * 10 + (2 + co)) = L' (k * 10 + (2 + co))) → lastF L co m = lastF L' co m
  | 0, _ => rfl
  | m + 1, h => by
    rw [lastF, lastF, h m (by omega), lastF_congr m fun k hk => h k (by omega)]
theorem lastF_shift (L : Nat → Int) (co m : Nat) : ∀ n, lastF (rsL L m) co n = lastF L co (n + m) - m
  | 0 => by
    have := lastF_le L co m
    rw [lastF, Nat.zero_add]
    omega
  | n + 1 => by
    rw [lastF, lastF_shift L co m n, show n + 1 + m = (n + m) + 1 by omega, lastF]
    have e : rsL L m (n * 10 + (2 + co)) = L ((n + m) * 10 + (2 + co)) := congrArg L (by omega)
    rw [e]
    split
    · omega
    · rfl
theorem lastF_all {L : Nat → Int} {co : Nat} : ∀ m, (∀ k, k < m → L (k * 10 + (2 + co)) ≠ 0) → lastF L co m = m
  | 0, _ => rfl
  | m + 1, h => by rw [lastF, if_pos (h m (by omega))]

def RowRel (r hr s : Nat → Int) (c : Int) (L : Nat → Int) : Prop :=
  r 16 = c ∧ (∀ w, w < 8 → r (8 + w) = s w) ∧ (∀ k : Nat, (k : Int) < c → hr (k * 2) = L (k * 10) ∧ hr (k * 2 + 1) = L (k * 10 + 1)) ∧ ∀ co, co < 8 → r (17 + co) = (lastF L co c.toNat : Int)

theorem rowRel_st {r hr s L : Nat → Int} {c w v : Int} (h : RowRel r hr s c L) (hc : 0 ≤ c) (hw : 0 ≤ w ∧ w < 8) : RowRel (stR r w.toNat v) (stH hr (r 16).toNat w v) s (c + 1) (rstR L c.toNat w v) := by
  obtain ⟨h1, h2, h3, h4⟩ := h
  subst h1
  refine ⟨if_pos rfl, fun x hx => ?_, fun k hk => ?_, fun co hco => ?_⟩
  · rw [← h2 x hx]
    unfold stR
    rw [if_neg (by omega), if_neg (by omega)]
  · have f1 : rstR L (r 16).toNat w v (k * 10) = if k < (r 16).toNat then L (k * 10) else w := by
      unfold rstR
      by_cases hkn : k < (r 16).toNat
      · rw [if_pos (by omega), if_pos hkn]
      · rw [if_neg (by omega), if_pos (by omega), if_neg hkn]
    have f2 : rstR L (r 16).toNat w v (k * 10 + 1) = if k < (r 16).toNat then L (k * 10 + 1) else v := by
      unfold rstR
      by_cases hkn : k < (r 16).toNat
      · rw [if_pos (by omega), if_pos hkn]
      · rw [if_neg (by omega), if_neg (by omega), if_pos (by omega), if_neg hkn]
    rw [f1, f2]
    unfold stH
    by_cases hkc : k = (r 16).toNat
    · subst hkc
      rw [if_pos rfl, if_neg (Nat.lt_irrefl _), if_neg (by omega), if_pos rfl, if_neg (Nat.lt_irrefl _)]
      exact ⟨rfl, rfl⟩
    · have n1 : ¬ k * 2 = (r 16).toNat * 2 := by omega
      have n2 : ¬ k * 2 = (r 16).toNat * 2 + 1 := by omega
      have n3 : k < (r 16).toNat := by omega
      have n4 : ¬ k * 2 + 1 = (r 16).toNat * 2 := by omega
      have n5 : ¬ k * 2 + 1 = (r 16).toNat * 2 + 1 := by omega
      rw [if_neg n1, if_neg n2, if_neg n4, if_neg n5, if_pos n3, if_pos n3]
      exact h3 k (by omega)
  · have e : stR r w.toNat v (17 + co) = r (17 + co) := by unfold stR; rw [if_neg (by omega), if_neg (by omega)]
    rw [e, h4 co hco, show (r 16 + 1).toNat = (r 16).toNat + 1 by omega, lastF]
    have e2 : rstR L (r 16).toNat w v ((r 16).toNat * 10 + (2 + co)) = 0 := by
      unfold rstR
      rw [if_neg (by omega), if_neg (by omega), if_neg (by omega)]
    rw [if_neg (by rw [e2]; simp)]
    rw [lastF_congr (L := rstR L (r 16).toNat w v) (L' := L)]
    intro k hk
    unfold rstR
    rw [if_pos (by omega)]

theorem rowRel_fl {r hr s L : Nat → Int} {c : Int} {x : Nat} (h : RowRel r hr s c L) (hc : 0 ≤ c) (hx : x < 8) : RowRel (flR r x) hr s c (rflR L c.toNat x) := by
  obtain ⟨h1, h2, h3, h4⟩ := h
  subst h1
  refine ⟨if_neg (by omega), fun w hw => ?_, fun k hk => ?_, fun co hco => ?_⟩
  · rw [← h2 w hw]; exact flR_lo (by omega)
  · unfold rflR
    rw [if_neg (by omega), if_neg (by omega)]
    exact h3 k hk
  · by_cases hcx : co = x
    · subst hcx
      rw [lastF_all _ fun k hk => by
        unfold rflR
        rw [if_pos (by omega)]
        decide]
      unfold flR
      rw [if_pos rfl]
      omega
    · have e : flR r x (17 + co) = r (17 + co) := if_neg (by omega)
      rw [e, h4 co hco]
      congr 1
      refine lastF_congr _ fun k hk => ?_
      unfold rflR
      rw [if_neg (by omega)]

theorem pk_eq {hr L : Nat → Int} {c : Int} (h : ∀ k : Nat, (k : Int) < c → hr (k * 2) = L (k * 10) ∧ hr (k * 2 + 1) = L (k * 10 + 1)) (k : Nat) (hk : (k : Int) < c) : hr (k * 2) = pk L (k * 2) ∧ hr (k * 2 + 1) = pk L (k * 2 + 1) := by
  rw [pk0, pk1]; exact h k hk

theorem rowRel_su {r hr s L : Nat → Int} {c : Int} {m : Nat} (h : RowRel r hr s c L) (hm : (m : Int) ≤ c) : RowRel (rowS r hr m) (hS hr m) (rsS s L m) (c - m) (rsL L m) := by
  obtain ⟨h1, h2, h3, h4⟩ := h
  subst h1
  refine ⟨rowS16 r hr m, fun w hw => ?_, fun k hk => ?_, fun co hco => ?_⟩
  · have e : rowS r hr m (8 + w) = apF (sur r) hr 0 m w := rowS_sur hw
    rw [e]
    unfold rsS
    rw [if_pos hw]
    exact apF_pt m 0 _ _ _ _ (h2 w hw) fun k _ hk => pk_eq h3 k (by omega)
  · have := h3 (k + m) (by omega)
    unfold hS rsL
    rw [show k * 2 + 2 * m = (k + m) * 2 by omega, show k * 2 + 1 + 2 * m = (k + m) * 2 + 1 by omega, show k * 10 + 10 * m = (k + m) * 10 by omega, show k * 10 + 1 + 10 * m = (k + m) * 10 + 1 by omega]
    exact this
  · have e : rowS r hr m (17 + co) = if r (17 + co) - m > 0 then r (17 + co) - m else 0 := by
      unfold rowS
      rw [if_neg (by omega), if_pos (by omega)]
    rw [e, h4 co hco, lastF_shift, show (r 16 - (m : Int)).toNat + m = (r 16).toNat by omega]
    split <;> omega

theorem rowRel_cr {r hr s L : Nat → Int} {c : Int} {m : Nat} (h : RowRel r hr s c L) (hm : (m : Int) ≤ c) (L' : Nat → Int) : RowRel (crR r hr m) hr (rsS s L m) 0 L' := by
  obtain ⟨h1, h2, h3, h4⟩ := h
  subst h1
  refine ⟨rfl, fun w hw => ?_, fun k hk => by omega, fun co hco => ?_⟩
  · have e : crR r hr m (8 + w) = apF (sur r) hr 0 m w := crR_sur hw
    rw [e]
    unfold rsS
    rw [if_pos hw]
    exact apF_pt m 0 _ _ _ _ (h2 w hw) fun k _ hk => pk_eq h3 k (by omega)
  · unfold crR
    rw [if_neg (by omega), if_neg (by omega), if_pos (by omega)]
    rfl

structure Side (m : Mem) (y : RMem) : Prop where
  n : y.n = m.n
  off : y.off = m.off
  burns : m.burns = decide (0 ≤ y.left)
  left : m.burns = true → m.left = y.left
  steps : y.count = m.steps
  row : ∀ i, i < m.n → RowRel (m.g i) (m.h i) (y.S i) (y.G i 0) (y.L i)

section
variable {m : Mem} {y : RMem} {K K' : Int}

theorem Side.po (h : Side m y) : y.po = m.po := by
  unfold RMem.po Mem.po rpoB offB
  rw [h.off]
  cases hb : m.burns with
  | true => rw [h.left hb]; rfl
  | false =>
    have := h.burns
    rw [hb] at this
    have hl : ¬ 0 ≤ y.left := by simpa using this.symm
    rw [show (y.left == 0) = false by simp; omega]
    rfl
theorem Side.cod (h : Side m y) : y.cod = m.cod := by
  have := h.po
  unfold RMem.po Mem.po at this
  unfold RMem.cod Mem.cod rcodI codeI
  rw [this]
theorem Side.stp (h : Side m y) : Side m.stp y.stp := by
  have hpo := h.po
  have hpo1 : rpoB y.off y.left = m.po := hpo
  have hpo2 : offB m.off m.burns m.left = m.po := rfl
  refine ⟨h.n, h.po, ?_, ?_, ?_, h.row⟩
  · show m.burns = decide (0 ≤ rleftI y.off y.left)
    unfold rleftI
    rw [hpo1]
    cases hp : m.po with
    | true => exact h.burns
    | false =>
      show m.burns = decide (0 ≤ bif decide (y.left > 0) then y.left - 1 else y.left)
      by_cases hl : y.left > 0
      · rw [decide_eq_true hl, h.burns]
        show decide (0 ≤ y.left) = decide (0 ≤ y.left - 1)
        rw [decide_eq_true (by omega), decide_eq_true (by omega)]
      · rw [decide_eq_false hl]; exact h.burns
  · intro hb
    have hb : m.burns = true := hb
    show leftI m.off m.burns m.left = rleftI y.off y.left
    unfold leftI rleftI
    rw [hpo1, hpo2, hb]
    have hl := h.left hb
    cases hp : m.po with
    | true => exact hl
    | false =>
      have hnz : m.left ≠ 0 := by
        intro h0
        unfold Mem.po offB at hp
        rw [hb, h0] at hp
        simp at hp
      have h0 : 0 ≤ y.left := by
        have := h.burns
        rw [hb] at this
        simpa using this.symm
      show m.left - 1 = bif decide (y.left > 0) then y.left - 1 else y.left
      rw [decide_eq_true (by omega : y.left > 0), hl]
      rfl
  · show rcntI y.off y.left y.count = stepsI m.off m.burns m.left m.steps
    unfold rcntI stepsI
    rw [hpo1, hpo2, h.steps]
theorem Side.wit {g' h' S' G' L' : Nat → Nat → Int} (h : Side m y) (hr : ∀ i, i < m.n → RowRel (g' i) (h' i) (S' i) (G' i 0) (L' i)) : Side (m.wit g' h') (y.wit S' G' L') := ⟨h.n, h.off, h.burns, h.left, h.steps, hr⟩

theorem Side.is (h : Side m y) (i : Int) : y.is i = !(decide (i < 0) || decide (i ≥ (m.n : Int))) := by
  unfold RMem.is
  rw [h.n]
  by_cases h1 : i < 0
  · rw [decide_eq_true h1, decide_eq_false (by omega : ¬ 0 ≤ i)]; rfl
  · rw [decide_eq_false h1, decide_eq_true (by omega : 0 ≤ i)]
    by_cases h2 : i < (m.n : Int)
    · rw [decide_eq_true h2, decide_eq_false (by omega)]; rfl
    · rw [decide_eq_false h2, decide_eq_true (by omega)]; rfl
theorem Side.bad (h : Side m y) (i w : Int) : y.bad i w = m.bad i w := by
  unfold RMem.bad Mem.bad
  rw [h.is, Bool.not_not]
  rw [show decide (w > 7) = decide (w ≥ 8) by rw [decide_eq_decide]; omega]
theorem corR_corB (c : Int) : corR c = corB c := by
  unfold corR corB
  rw [show decide (c > 7) = decide (c ≥ 8) by rw [decide_eq_decide]; omega]
theorem Side.fbad (h : Side m y) (c i : Int) : (corR c || !y.is i) = m.bad i c := by
  rw [h.is, Bool.not_not, corR_corB]
  unfold corB Mem.bad
  cases decide (c < 0) <;> cases decide (c ≥ 8) <;> cases decide (i < 0) <;> cases decide (i ≥ (m.n : Int)) <;> rfl
/-! ### the calls -/

theorem side_stC (h : Side m y) (i w : Int) : y.stC i w = m.stC i w := by unfold RMem.stC Mem.stC; rw [h.bad, h.cod]
theorem side_stM (h : Side m y) (ok : y.Ok K) (i w v : Int) : Side (m.stM i w v) (y.stM i w v) := by
  unfold Mem.stM RMem.stM
  rw [h.bad, h.po]
  cases hb : m.bad i w with
  | true => exact h
  | false =>
    cases m.po with
    | true => exact h.stp
    | false =>
      obtain ⟨h0, h1, h2, h3⟩ := bad_no hb
      refine h.stp.wit fun j hj => ?_
      have hr := h.row j hj
      rw [updG_row]
      by_cases hji : j = i.toNat
      · subst hji
        rw [updR_self, updR_self, updR_self, updR_self, if_pos rfl]
        exact rowRel_st hr (ok.2.2.2 _ (by rw [h.n]; exact hj)).1.1 ⟨h2, h3⟩
      · rw [updR_ne hji, updR_ne hji, updR_ne hji, updR_ne hji]
        exact hr
theorem side_flC (h : Side m y) (c i : Int) : y.flC c i = m.stC i c := by unfold RMem.flC Mem.stC; rw [h.fbad, h.cod]
theorem side_flM (h : Side m y) (ok : y.Ok K) (c i : Int) : Side (m.flM c i) (y.flM c i) := by
  unfold Mem.flM RMem.flM
  rw [h.fbad, h.po]
  cases hb : m.bad i c with
  | true => exact h
  | false =>
    cases m.po with
    | true => exact h.stp
    | false =>
      obtain ⟨h0, h1, h2, h3⟩ := bad_no hb
      refine h.stp.wit fun j hj => ?_
      have hr := h.row j hj
      by_cases hji : j = i.toNat
      · subst hji
        rw [updR_self, updR_self]
        exact rowRel_fl hr (ok.2.2.2 _ (by rw [h.n]; exact hj)).1.1 (by omega)
      · rw [updR_ne hji, updR_ne hji]
        exact hr
theorem side_feC (h : Side m y) (c : Int) : y.feC c = m.feC c := by unfold RMem.feC Mem.feC; rw [corR_corB, h.cod]
theorem side_feM (h : Side m y) (ok : y.Ok K) (c : Int) : Side (m.feM c) (y.feM c) := by
  unfold Mem.feM RMem.feM
  rw [corR_corB, h.po]
  cases hb : corB c with
  | true => exact h
  | false =>
    cases m.po with
    | true => exact h.stp
    | false =>
      have hc := corB_no hb
      refine h.stp.wit fun j hj => ?_
      have hr := h.row j hj
      have hn : j < y.n := by rw [h.n]; exact hj
      have e1 : y.stp.n = y.n := rfl
      have hcnt := (ok.2.2.2 j hn).1.1
      have h4 := hr.2.2.2 c.toNat (by omega)
      have hfk : y.stp.fk c.toNat j = lastF (y.L j) c.toNat (y.G j 0).toNat := rfl
      rw [e1, if_pos ⟨Nat.zero_le _, hn⟩, if_pos ⟨rfl, Nat.zero_le _, hn⟩, if_pos ⟨Nat.zero_le _, hn⟩, hfk]
      change RowRel _ _ (rsS (y.S j) (y.L j) _) (y.G j 0 - _) (rsL (y.L j) _)
      have hle := lastF_le (y.L j) c.toNat (y.G j 0).toNat
      unfold feG feH
      by_cases hp : m.g j (17 + c.toNat) > 0
      · rw [if_pos ⟨Nat.zero_le _, hj, hp⟩, if_pos ⟨Nat.zero_le _, hj, hp⟩, h4, Int.toNat_natCast]
        exact rowRel_su hr (by omega)
      · rw [if_neg (fun hh => hp hh.2.2), if_neg (fun hh => hp hh.2.2)]
        have h0 : lastF (y.L j) c.toNat (y.G j 0).toNat = 0 := by omega
        rw [h0, rsS_zero, rsL_zero]
        simpa using hr
theorem side_fuM (h : Side m y) (x : Int) : Side (m.fuM x) (y.fuM x) := by
  refine ⟨h.n, h.off, ?_, ?_, h.steps, h.row⟩
  · show decide (x ≥ 0) = decide (0 ≤ if -1 > x then -1 else x)
    rw [decide_eq_decide]
    split <;> omega
  · intro hb
    have hb : x ≥ 0 := by simpa [Mem.fuM] using hb
    show x = if -1 > x then -1 else x
    rw [if_neg (by omega)]
theorem cnt_eq {g G : Nat → Nat → Int} {n : Nat} (h : ∀ i, i < n → g i 16 = G i 0) : ∀ d a, a + d ≤ n → cntU g a d = rcnt G a d
  | 0, _, _ => rfl
  | d + 1, a, hd => by rw [cntU, rcnt, h a (by omega), cnt_eq h d (a + 1) (by omega)]
theorem side_crM (h : Side m y) (ok : y.Ok K) (q : Nat → Int) (kn : Nat) : Side (m.crM q kn) (y.crM q kn) := by
  refine ⟨h.n, rfl, rfl, fun hb => (Bool.noConfusion (show false = true from hb)), h.steps, fun i hi => ?_⟩
  have hr := h.row i hi
  have hn : i < y.n := by rw [h.n]; exact hi
  show RowRel (crG m.n m.g m.h q kn 0 i) (m.h i) ((y.crF q kn 0 0).S i) ((y.crF q kn 0 0).G i 0) (y.L i)
  have e1 : (y.crF q kn 0 0).G i 0 = 0 := if_pos ⟨rfl, Nat.zero_le _, hn⟩
  have e2 : (y.crF q kn 0 0).S i = if 0 ≤ i ∧ i < y.n ∧ y.G i 0 > 0 then rsS (y.S i) (y.L i) (crK q kn (0 + rcnt y.G 0 (i - 0)) (y.G i 0)) else y.S i := rfl
  have hcnt := (ok.2.2.2 i hn).1.1
  rw [e1, e2, Nat.zero_add]
  unfold crG
  rw [hr.1]
  by_cases hp : y.G i 0 > 0
  · rw [if_pos ⟨Nat.zero_le _, hi, hp⟩, if_pos ⟨Nat.zero_le _, hn, hp⟩, cnt_eq (g := m.g) (G := y.G) (n := m.n) (fun j hj => (h.row j hj).1) (i - 0) 0 (by have : i < m.n := hi; omega)]
    refine rowRel_cr hr ?_ _
    unfold crK
    have h1 := Int.emod_nonneg (kv q kn (rcnt y.G 0 (i - 0))) (b := y.G i 0 + 1) (by omega)
    have h2 := Int.emod_lt_of_pos (kv q kn (rcnt y.G 0 (i - 0))) (b := y.G i 0 + 1) (by omega)
    omega
  · rw [if_neg (fun hh => hp hh.2.2), if_neg (fun hh => hp hh.2.2)]
    have e0 : y.G i 0 = 0 := by omega
    rw [e0] at hr
    exact hr
theorem side_ldC (h : Side m y) (i : Int) : y.ldC i = m.ldC i := by
  unfold RMem.ldC Mem.ldC
  rw [h.is, h.off, Bool.not_not]
theorem side_ldW (h : Side m y) (ok : y.Ok K) (co : m.Coh) (i : Int) (c : Nat) (hc : c < 8) : y.ldW i c = m.ldW i c := by
  unfold RMem.ldW Mem.ldW
  rw [side_ldC h]
  cases hz : (m.ldC i == 0) with
  | false => rfl
  | true =>
    have hi : 0 ≤ i ∧ i < m.n := by
      have h0 : m.ldC i = 0 := by simpa using hz
      unfold Mem.ldC at h0
      cases hb : (decide (i < 0) || decide (i ≥ (m.n : Int))) with
      | true => rw [hb] at h0; exact absurd (show (1 : Int) = 0 from h0) (by decide)
      | false =>
        simp only [Bool.or_eq_false_iff, decide_eq_false_iff_not] at hb
        omega
    have hr := h.row i.toNat (by omega)
    have hcnt := (ok.2.2.2 i.toNat (by rw [h.n]; omega)).1.1
    show rsS (y.S i.toNat) (y.L i.toNat) (y.G i.toNat 0).toNat c = m.g i.toNat c
    rw [co i.toNat (by omega) c hc, hr.1]
    unfold rsS
    rw [if_pos hc]
    exact (apF_pt _ 0 _ _ _ _ (hr.2.1 c hc) fun k _ hk => pk_eq hr.2.2.1 k (by omega)).symm
theorem side_new (n : Nat) : Side (newM n) (rnewR n fun _ _ => 0) := ⟨rfl, rfl, rfl, fun hb => (Bool.noConfusion (show false = true from hb)), rfl, fun _ _ => ⟨rfl, fun _ _ => rfl, fun _ _ => ⟨rfl, rfl⟩, fun _ _ => rfl⟩⟩
end
end Go.Proofs.Ytgmhggipaopoiaa.G
end
