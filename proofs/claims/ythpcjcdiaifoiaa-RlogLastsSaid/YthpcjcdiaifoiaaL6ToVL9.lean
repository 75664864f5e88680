/-
  What functions of the seat compute, printed by a program from the explorer.
-/
import Derived.Test.YthpcjcdiaifoiaaE6ToS9
import Derived.KernelRfl
import Derived.Test.YthpcjcdiaifoiaaCrcVToO11
section
namespace Go.Proofs.Ythpcjcdiaifoiaa.G
open Go Go.AM Go.Proofs
/-! ### the loop at 9 of RlogLasts -/

noncomputable def lsh_RlogLasts_9 : FSh := ⟨[.any, .any, .v false [.sq 0 1], .any, .any, .any, .any, .any, .v false [.p 1 0], .any, .v false [.k (.n .i64)], .v false [.k (.n .i64)], .v false [.k (.n .i64)], .any, .any, .any, .any, .any, .any, .any, .any, .any, .any, .any, .any, .any, .any, .any, .any, .any, .any, .any, .any, .any, .any, .any, .any, .any, .any, .any, .any, .any, .any, .any, .any, .any, .any, .any, .any, .any, .any, .any, .any, .any, .any, .any, .any, .any, .any, .any, .any, .any, .any, .any, .any, .any, .any, .any, .any, .any, .any, .any, .any, .any, .any, .any, .any, .any, .any, .any, .any, .any, .any, .any, .any, .any, .any, .any, .any, .any, .any, .any, .any, .any, .any, .any, .any, .any], [.rows [.n .i64] false, .cells [.sw 2 25, .k .b, .k .b, .k (.n .i64), .k (.n .i64)], .nrows [.n .u64, .n .u64, .n .u64, .n .u64, .n .u64, .n .u64, .n .u64, .n .u64, .n .u64, .n .u64, .n .u64, .n .u64, .n .u64, .n .u64, .n .u64, .n .u64, .n .i64, .n .i64, .n .i64, .n .i64, .n .i64, .n .i64, .n .i64, .n .i64, .n .i64] 16 [.n .i64, .n .u64] 3 false true, .no]⟩
noncomputable def xsh_RlogLasts_9_0 : FSh := ⟨[.any, .any, .v false [.sq 0 1], .any, .any, .any, .any, .any, .v false [.p 1 0], .any, .v false [.k (.n .i64)], .v false [.k (.n .i64)], .any, .any, .any, .any, .any, .any, .any, .any, .any, .any, .any, .any, .any, .any, .any, .any, .any, .any, .any, .any, .any, .any, .any, .any, .any, .any, .any, .any, .any, .any, .any, .any, .any, .any, .any, .any, .any, .any, .any, .any, .any, .any, .any, .any, .any, .any, .any, .any, .any, .any, .any, .any, .any, .any, .any, .any, .any, .any, .any, .any, .any, .any, .any, .any, .any, .any, .any, .any, .any, .any, .any, .any, .any, .any, .any, .any, .any, .any, .any, .any, .any, .any, .any, .any, .any, .any], [.rows [.n .i64] false, .cells [.sw 2 25, .k .b, .k .b, .k (.n .i64), .k (.n .i64)], .nrows [.n .u64, .n .u64, .n .u64, .n .u64, .n .u64, .n .u64, .n .u64, .n .u64, .n .u64, .n .u64, .n .u64, .n .u64, .n .u64, .n .u64, .n .u64, .n .u64, .n .i64, .n .i64, .n .i64, .n .i64, .n .i64, .n .i64, .n .i64, .n .i64, .n .i64] 16 [.n .i64, .n .u64] 3 false true, .no]⟩
noncomputable def xs_RlogLasts_9 : Exs := fun e => match e with
  | .normal => some lsh_RlogLasts_9
  | .exit n => (match Nat.beq n 0 with | true => some xsh_RlogLasts_9_0 | false => none)
  | .ret => none
noncomputable def B_RlogLasts_9 (x0 : Nat) (x1 : Nat) (x2 : Int) (x3 : Int) (x4 : Int) (n5 : Nat) (g5 : Nat → Nat → Int) (x6 : Bool) (x7 : Bool) (x8 : Int) (x9 : Int) (n10 : Nat) (g10 : Nat → Nat → Int) (h10 : Nat → Nat → Int) : Tr (Ex × List At) :=
 .br 35 (Decidable.decide (x4 ≤ x2))
 (.br 0 (Go.Proofs.Ythpcjcdiaifoiaa.G.pdec (Go.Proofs.Ythpcjcdiaifoiaa.G.Mem.Ok (880000 : Int) { n := n10, g := g10, h := h10, off := x6, burns := x7, left := x8, steps := x9 }))
 (.br 49 ((Go.Proofs.Ythpcjcdiaifoiaa.G.rapA (Go.Proofs.Ythpcjcdiaifoiaa.G.llW x4 x4 (Int.tmod x4 (8 : Int)) (Go.IntKind.wrap Go.IntKind.u64 x4)) (Go.Proofs.Ythpcjcdiaifoiaa.G.r_lLine_8 x4 x4 (Int.tmod x4 (8 : Int)) (Go.IntKind.wrap Go.IntKind.u64 x4)) { n := n10, g := g10, h := h10, off := x6, burns := x7, left := x8, steps := x9 } (Int.tmod x4 (3 : Int)) (0 : Int)).snd != (0 : Int))
 (.ok (.exit 0, [(.n (x0)), (.n (x1)), (.i (x2)), (.i (x3)), (.r (n5) (g5)), (.b ((Go.Proofs.Ythpcjcdiaifoiaa.G.rapA (Go.Proofs.Ythpcjcdiaifoiaa.G.llW x4 x4 (Int.tmod x4 (8 : Int)) (Go.IntKind.wrap Go.IntKind.u64 x4)) (Go.Proofs.Ythpcjcdiaifoiaa.G.r_lLine_8 x4 x4 (Int.tmod x4 (8 : Int)) (Go.IntKind.wrap Go.IntKind.u64 x4)) { n := n10, g := g10, h := h10, off := x6, burns := x7, left := x8, steps := x9 } (Int.tmod x4 (3 : Int)) (0 : Int)).fst.off)), (.b ((Go.Proofs.Ythpcjcdiaifoiaa.G.rapA (Go.Proofs.Ythpcjcdiaifoiaa.G.llW x4 x4 (Int.tmod x4 (8 : Int)) (Go.IntKind.wrap Go.IntKind.u64 x4)) (Go.Proofs.Ythpcjcdiaifoiaa.G.r_lLine_8 x4 x4 (Int.tmod x4 (8 : Int)) (Go.IntKind.wrap Go.IntKind.u64 x4)) { n := n10, g := g10, h := h10, off := x6, burns := x7, left := x8, steps := x9 } (Int.tmod x4 (3 : Int)) (0 : Int)).fst.burns)), (.i ((Go.Proofs.Ythpcjcdiaifoiaa.G.rapA (Go.Proofs.Ythpcjcdiaifoiaa.G.llW x4 x4 (Int.tmod x4 (8 : Int)) (Go.IntKind.wrap Go.IntKind.u64 x4)) (Go.Proofs.Ythpcjcdiaifoiaa.G.r_lLine_8 x4 x4 (Int.tmod x4 (8 : Int)) (Go.IntKind.wrap Go.IntKind.u64 x4)) { n := n10, g := g10, h := h10, off := x6, burns := x7, left := x8, steps := x9 } (Int.tmod x4 (3 : Int)) (0 : Int)).fst.left)), (.i ((Go.Proofs.Ythpcjcdiaifoiaa.G.rapA (Go.Proofs.Ythpcjcdiaifoiaa.G.llW x4 x4 (Int.tmod x4 (8 : Int)) (Go.IntKind.wrap Go.IntKind.u64 x4)) (Go.Proofs.Ythpcjcdiaifoiaa.G.r_lLine_8 x4 x4 (Int.tmod x4 (8 : Int)) (Go.IntKind.wrap Go.IntKind.u64 x4)) { n := n10, g := g10, h := h10, off := x6, burns := x7, left := x8, steps := x9 } (Int.tmod x4 (3 : Int)) (0 : Int)).fst.steps)), (.q ((Go.Proofs.Ythpcjcdiaifoiaa.G.rapA (Go.Proofs.Ythpcjcdiaifoiaa.G.llW x4 x4 (Int.tmod x4 (8 : Int)) (Go.IntKind.wrap Go.IntKind.u64 x4)) (Go.Proofs.Ythpcjcdiaifoiaa.G.r_lLine_8 x4 x4 (Int.tmod x4 (8 : Int)) (Go.IntKind.wrap Go.IntKind.u64 x4)) { n := n10, g := g10, h := h10, off := x6, burns := x7, left := x8, steps := x9 } (Int.tmod x4 (3 : Int)) (0 : Int)).fst.n) ((Go.Proofs.Ythpcjcdiaifoiaa.G.rapA (Go.Proofs.Ythpcjcdiaifoiaa.G.llW x4 x4 (Int.tmod x4 (8 : Int)) (Go.IntKind.wrap Go.IntKind.u64 x4)) (Go.Proofs.Ythpcjcdiaifoiaa.G.r_lLine_8 x4 x4 (Int.tmod x4 (8 : Int)) (Go.IntKind.wrap Go.IntKind.u64 x4)) { n := n10, g := g10, h := h10, off := x6, burns := x7, left := x8, steps := x9 } (Int.tmod x4 (3 : Int)) (0 : Int)).fst.g) ((16 : Nat)) ((2 : Nat)) ((Go.Proofs.Ythpcjcdiaifoiaa.G.rapA (Go.Proofs.Ythpcjcdiaifoiaa.G.llW x4 x4 (Int.tmod x4 (8 : Int)) (Go.IntKind.wrap Go.IntKind.u64 x4)) (Go.Proofs.Ythpcjcdiaifoiaa.G.r_lLine_8 x4 x4 (Int.tmod x4 (8 : Int)) (Go.IntKind.wrap Go.IntKind.u64 x4)) { n := n10, g := g10, h := h10, off := x6, burns := x7, left := x8, steps := x9 } (Int.tmod x4 (3 : Int)) (0 : Int)).fst.h))]))
 (.ok (.normal, [(.n (x0)), (.n (x1)), (.i (x2)), (.i (x4)), (.i (Go.IntKind.wrap Go.IntKind.i64 (x4 + (1 : Int)))), (.r (n5) (g5)), (.b ((Go.Proofs.Ythpcjcdiaifoiaa.G.rapA (Go.Proofs.Ythpcjcdiaifoiaa.G.llW x4 x4 (Int.tmod x4 (8 : Int)) (Go.IntKind.wrap Go.IntKind.u64 x4)) (Go.Proofs.Ythpcjcdiaifoiaa.G.r_lLine_8 x4 x4 (Int.tmod x4 (8 : Int)) (Go.IntKind.wrap Go.IntKind.u64 x4)) { n := n10, g := g10, h := h10, off := x6, burns := x7, left := x8, steps := x9 } (Int.tmod x4 (3 : Int)) (0 : Int)).fst.off)), (.b ((Go.Proofs.Ythpcjcdiaifoiaa.G.rapA (Go.Proofs.Ythpcjcdiaifoiaa.G.llW x4 x4 (Int.tmod x4 (8 : Int)) (Go.IntKind.wrap Go.IntKind.u64 x4)) (Go.Proofs.Ythpcjcdiaifoiaa.G.r_lLine_8 x4 x4 (Int.tmod x4 (8 : Int)) (Go.IntKind.wrap Go.IntKind.u64 x4)) { n := n10, g := g10, h := h10, off := x6, burns := x7, left := x8, steps := x9 } (Int.tmod x4 (3 : Int)) (0 : Int)).fst.burns)), (.i ((Go.Proofs.Ythpcjcdiaifoiaa.G.rapA (Go.Proofs.Ythpcjcdiaifoiaa.G.llW x4 x4 (Int.tmod x4 (8 : Int)) (Go.IntKind.wrap Go.IntKind.u64 x4)) (Go.Proofs.Ythpcjcdiaifoiaa.G.r_lLine_8 x4 x4 (Int.tmod x4 (8 : Int)) (Go.IntKind.wrap Go.IntKind.u64 x4)) { n := n10, g := g10, h := h10, off := x6, burns := x7, left := x8, steps := x9 } (Int.tmod x4 (3 : Int)) (0 : Int)).fst.left)), (.i ((Go.Proofs.Ythpcjcdiaifoiaa.G.rapA (Go.Proofs.Ythpcjcdiaifoiaa.G.llW x4 x4 (Int.tmod x4 (8 : Int)) (Go.IntKind.wrap Go.IntKind.u64 x4)) (Go.Proofs.Ythpcjcdiaifoiaa.G.r_lLine_8 x4 x4 (Int.tmod x4 (8 : Int)) (Go.IntKind.wrap Go.IntKind.u64 x4)) { n := n10, g := g10, h := h10, off := x6, burns := x7, left := x8, steps := x9 } (Int.tmod x4 (3 : Int)) (0 : Int)).fst.steps)), (.q ((Go.Proofs.Ythpcjcdiaifoiaa.G.rapA (Go.Proofs.Ythpcjcdiaifoiaa.G.llW x4 x4 (Int.tmod x4 (8 : Int)) (Go.IntKind.wrap Go.IntKind.u64 x4)) (Go.Proofs.Ythpcjcdiaifoiaa.G.r_lLine_8 x4 x4 (Int.tmod x4 (8 : Int)) (Go.IntKind.wrap Go.IntKind.u64 x4)) { n := n10, g := g10, h := h10, off := x6, burns := x7, left := x8, steps := x9 } (Int.tmod x4 (3 : Int)) (0 : Int)).fst.n) ((Go.Proofs.Ythpcjcdiaifoiaa.G.rapA (Go.Proofs.Ythpcjcdiaifoiaa.G.llW x4 x4 (Int.tmod x4 (8 : Int)) (Go.IntKind.wrap Go.IntKind.u64 x4)) (Go.Proofs.Ythpcjcdiaifoiaa.G.r_lLine_8 x4 x4 (Int.tmod x4 (8 : Int)) (Go.IntKind.wrap Go.IntKind.u64 x4)) { n := n10, g := g10, h := h10, off := x6, burns := x7, left := x8, steps := x9 } (Int.tmod x4 (3 : Int)) (0 : Int)).fst.g) ((16 : Nat)) ((2 : Nat)) ((Go.Proofs.Ythpcjcdiaifoiaa.G.rapA (Go.Proofs.Ythpcjcdiaifoiaa.G.llW x4 x4 (Int.tmod x4 (8 : Int)) (Go.IntKind.wrap Go.IntKind.u64 x4)) (Go.Proofs.Ythpcjcdiaifoiaa.G.r_lLine_8 x4 x4 (Int.tmod x4 (8 : Int)) (Go.IntKind.wrap Go.IntKind.u64 x4)) { n := n10, g := g10, h := h10, off := x6, burns := x7, left := x8, steps := x9 } (Int.tmod x4 (3 : Int)) (0 : Int)).fst.h))])))
 (.no))
 (.ok (.exit 0, [(.n (x0)), (.n (x1)), (.i (x2)), (.i (x3)), (.r (n5) (g5)), (.b (x6)), (.b (x7)), (.i (x8)), (.i (x9)), (.q (n10) (g10) ((16 : Nat)) ((2 : Nat)) (h10))]))
noncomputable def y_RlogLasts_9 : Nat → Option Nat := (syOf3 [35, 49] [] [])
noncomputable def BL_RlogLasts_9 (l : List At) : Tr (Ex × List At) := B_RlogLasts_9 (aN l 0) (aN l 1) (aI l 2) (aI l 3) (aI l 4) (aRn l 5) (aRg l 5) (aB l 6) (aB l 7) (aI l 8) (aI l 9) (aRn l 10) (aRg l 10) (aMh l 10 16 2)
theorem eB_RlogLasts_9 (l : List At) : (exec Try.prog Γ_S9 y_RlogLasts_9 noLoops 100 (loopAt Try.f9 9) ⟨mkV lsh_RlogLasts_9 l, mkH lsh_RlogLasts_9 l⟩).bind (leafL 1 xs_RlogLasts_9) = BL_RlogLasts_9 l := by kernel_rfl
/- by hand: O_RlogLasts_9 (x0 : Nat) (x1 : Nat) (x2 : Int) (x3 : Int) (x4 : Int) (n5 : Nat) (g5 : Nat → Nat → Int) (x6 : Bool) (x7 : Bool) (x8 : Int) (x9 : Int) (n10 : Nat) (g10 : Nat → Nat → Int) (h10 : Nat → Nat → Int) : Tr (Ex × List At); OL_RlogLasts_9 (l) := O_RlogLasts_9 (aN l 0) (aN l 1) (aI l 2) (aI l 3) (aI l 4) (aRn l 5) (aRg l 5) (aB l 6) (aB l 7) (aI l 8) (aI l 9) (aRn l 10) (aRg l 10) (aMh l 10 16 2); μ_RlogLasts_9 : List At → Nat; rd_RlogLasts_9 : ∀ l r, (OL_RlogLasts_9 l).val = some r → RoundA BL_RlogLasts_9 OL_RlogLasts_9 μ_RlogLasts_9 l r -/

end Go.Proofs.Ythpcjcdiaifoiaa.G
end

/-
  The loop of RlogLasts that appends.
-/
section
namespace Go.Proofs.Ythpcjcdiaifoiaa.G
open Go Go.AM Go.Proofs

theorem rapA_ok {w : Nat → Int} {lc : Int} {m : Mem} {c s K : Int} (h : m.Ok K) (hK : K + 11 ≤ 900000) : (rapA w lc m c s).1.Ok (K + 11) := by
  unfold rapA
  cases faC m c s != 0 with
  | true => exact h.mono (by omega)
  | false => cases lc != 0 with
    | true => exact h.mono (by omega)
    | false => exact wrM_ok h hK

noncomputable def laA (i : Int) (m : Mem) : Mem × Int := rapA (llW i i (Int.tmod i 8) (IntKind.wrap IntKind.u64 i)) (r_lLine_8 i i (Int.tmod i 8) (IntKind.wrap IntKind.u64 i)) m (Int.tmod i 3) 0
/-- Records from 'i' on, till one is refused: how many are there, and the memory. -/
noncomputable def laL : Nat → Int → Int → Mem → Int × Mem
  | 0, _, d, m => (d, m)
  | k + 1, i, d, m => bif (laA i m).2 != 0 then (d, (laA i m).1) else laL k (i + 1) i (laA i m).1

noncomputable def O_RlogLasts_9 (x0 x1 : Nat) (x2 x3 x4 : Int) (n5 : Nat) (g5 : Nat → Nat → Int) (m : Mem) : Tr (Ex × List At) :=
  .br 0 (pdec (1 ≤ x4 ∧ x2 ≤ 12 ∧ x4 ≤ 13 ∧ m.Ok (11 * x4))) (.ok (.exit 0, .n x0 :: .n x1 :: .i x2 :: .i (laL (x2 + 1 - x4).toNat x4 x3 m).1 :: .r n5 g5 :: (laL (x2 + 1 - x4).toNat x4 x3 m).2.ats)) .no
noncomputable def OL_RlogLasts_9 (l : List At) : Tr (Ex × List At) := O_RlogLasts_9 (aN l 0) (aN l 1) (aI l 2) (aI l 3) (aI l 4) (aRn l 5) (aRg l 5) ⟨aRn l 10, aRg l 10, aMh l 10 16 2, aB l 6, aB l 7, aI l 8, aI l 9⟩
def μ_RlogLasts_9 (l : List At) : Nat := (aI l 2 + 1 - aI l 4).toNat

theorem rd_RlogLasts_9 : ∀ l r, (OL_RlogLasts_9 l).val = some r → RoundS BL_RlogLasts_9 OL_RlogLasts_9 μ_RlogLasts_9 l r := by
  intro l r hh
  unfold OL_RlogLasts_9 at hh
  obtain ⟨hc, h⟩ := guard_val hh
  clear hh
  obtain ⟨c0, c1, c2, c3⟩ := of_pdec hc
  unfold RoundS BL_RlogLasts_9 B_RlogLasts_9
  generalize hx2 : aI l 2 = x2 at *
  generalize hx3 : aI l 3 = x3 at *
  generalize hx4 : aI l 4 = x4 at *
  generalize hm : (⟨aRn l 10, aRg l 10, aMh l 10 16 2, aB l 6, aB l 7, aI l 8, aI l 9⟩ : Mem) = m at *
  refine brD (fun h1 => ?_) (fun h1 => ?_)
  · have e1 : (x2 + 1 - x4).toNat = (x2 + 1 - (x4 + 1)).toNat + 1 := by omega
    have hw : IntKind.i64.wrap (x4 + 1) = x4 + 1 := wrap_i64 (by omega) (by omega)
    have hμ : (x2 + 1 - (x4 + 1)).toNat < μ_RlogLasts_9 l := by unfold μ_RlogLasts_9; rw [hx2, hx4]; omega
    rw [e1, laL] at h
    rw [hw]
    refine brT (pdec_yes (c3.mono (by omega))) ?_
    have hok : (laA x4 m).1.Ok (11 * (x4 + 1)) := (rapA_ok c3 (by omega)).mono (by omega)
    have hq : 1 ≤ x4 + 1 ∧ x2 ≤ 12 ∧ x4 + 1 ≤ 13 ∧ (laA x4 m).1.Ok (11 * (x4 + 1)) := ⟨by omega, c1, by omega, hok⟩
    refine brC (fun hz => ?_) (fun hz => ?_)
    · have hz' : ((laA x4 m).2 != 0) = true := hz
      rw [hz'] at h
      have hv := val_ok h
      subst hv
      exact out_ (by simp) rfl (AtsEq.refl _)
    · have hz' : ((laA x4 m).2 != 0) = false := hz
      rw [hz'] at h
      exact on_ _ r (AtsEq.refl _) hμ ((br_t (g := 0) (pdec_yes hq)).trans h) rfl (AtsEq.refl _)
  · have e : (x2 + 1 - x4).toNat = 0 := by omega
    rw [e, laL] at h
    have hv := val_ok h
    subst hv
    rw [← hm]
    exact out_ (by simp) rfl (AtsEq.refl _)
end Go.Proofs.Ythpcjcdiaifoiaa.G
end

/-
  What functions of the seat compute, printed by a program from the explorer.
-/
section
namespace Go.Proofs.Ythpcjcdiaifoiaa.G
open Go Go.AM Go.Proofs
theorem f_RlogLasts_9 : LoopF Try.prog 1 (loopAt Try.f9 9) (loopFn 1 lsh_RlogLasts_9 xs_RlogLasts_9 OL_RlogLasts_9) :=
  loop_sat (sy := y_RlogLasts_9) (fuel := 100) (Lp := noLoops) o_S9 mixed (loopsOK_at (noLoops_ok _) 9) rfl eB_RlogLasts_9 rd_RlogLasts_9
noncomputable def Lp_RlogLasts_9 : Loops := Loops.set noLoops 9 (loopFn 1 lsh_RlogLasts_9 xs_RlogLasts_9 OL_RlogLasts_9)
theorem lk_RlogLasts_9 : LoopsFn Try.prog 1 Lp_RlogLasts_9 Try.f9 := loopsFn_set (noLoops_ok _) (by kernel_rfl) f_RlogLasts_9

/-! ### the loop at 18 of RlogLasts -/

noncomputable def lsh_RlogLasts_18 : FSh := ⟨[.any, .any, .any, .any, .any, .any, .any, .any, .any, .any, .any, .any, .any, .v false [.sw 1 4], .any, .v false [.k (.n .i64)], .any, .any, .any, .any, .any, .any, .any, .any, .any, .any, .any, .any, .any, .any, .any, .any, .any, .any, .any, .any, .any, .any, .any, .any, .any, .any, .any, .any, .any, .any, .any, .any, .any, .any, .any, .any, .any, .any, .any, .any, .any, .any, .any, .any, .any, .any, .any, .any, .any, .any, .any, .any, .any, .any, .any, .any, .any, .any, .any, .any, .any, .any, .any, .any, .any, .any, .any, .any, .any, .any, .any, .any, .any, .any, .any, .any, .any, .any, .any, .any, .any, .any], [.no, .rows [.n .i64, .n .i64, .n .i64, .n .u64] true]⟩
noncomputable def xsh_RlogLasts_18_0 : FSh := ⟨[.any, .any, .any, .any, .any, .any, .any, .any, .any, .any, .any, .any, .any, .any, .any, .any, .any, .any, .any, .any, .any, .any, .any, .any, .any, .any, .any, .any, .any, .any, .any, .any, .any, .any, .any, .any, .any, .any, .any, .any, .any, .any, .any, .any, .any, .any, .any, .any, .any, .any, .any, .any, .any, .any, .any, .any, .any, .any, .any, .any, .any, .any, .any, .any, .any, .any, .any, .any, .any, .any, .any, .any, .any, .any, .any, .any, .any, .any, .any, .any, .any, .any, .any, .any, .any, .any, .any, .any, .any, .any, .any, .any, .any, .any, .any, .any, .any, .any], [.no]⟩
noncomputable def xsh_RlogLasts_18_1 : FSh := ⟨[.any, .any, .any, .any, .any, .any, .v false [.k .b], .any, .any, .any, .any, .any, .any, .any, .any, .any, .any, .any, .any, .any, .any, .any, .any, .any, .any, .any, .any, .any, .any, .any, .any, .any, .any, .any, .any, .any, .any, .any, .any, .any, .any, .any, .any, .any, .any, .any, .any, .any, .any, .any, .any, .any, .any, .any, .any, .any, .any, .any, .any, .any, .any, .any, .any, .any, .any, .any, .any, .any, .any, .any, .any, .any, .any, .any, .any, .any, .any, .any, .any, .any, .any, .any, .any, .any, .any, .any, .any, .any, .any, .any, .any, .any, .any, .any, .any, .any, .any, .any], [.no]⟩
noncomputable def xs_RlogLasts_18 : Exs := fun e => match e with
  | .normal => some lsh_RlogLasts_18
  | .exit n => (match Nat.beq n 2 with | true => some xsh_RlogLasts_18_0 | false => none)
  | .ret => some xsh_RlogLasts_18_1
noncomputable def B_RlogLasts_18 (x0 : Int) (n1 : Nat) (g1 : Nat → Nat → Int) : Tr (Ex × List At) :=
 .br 79 (Decidable.decide (x0 < (↑n1 : Int)))
 (.br 84 (Go.AM.within x0 n1)
 (.br 97 (!(g1 (Int.toNat x0) (0 : Nat) == Go.IntKind.wrap Go.IntKind.i64 (x0 + (1 : Int)) && (g1 (Int.toNat x0) (1 : Nat) == Go.IntKind.wrap Go.IntKind.i64 (x0 + (1 : Int)) && (g1 (Int.toNat x0) (2 : Nat) == Int.tmod (Go.IntKind.wrap Go.IntKind.i64 (x0 + (1 : Int))) (8 : Int) && (g1 (Int.toNat x0) (3 : Nat) == Go.IntKind.wrap Go.IntKind.u64 (Go.IntKind.wrap Go.IntKind.i64 (x0 + (1 : Int))) && Bool.true)))))
 (.ok (.ret, [(.b (Bool.false))]))
 (.ok (.normal, [(.i (Go.IntKind.wrap Go.IntKind.i64 (x0 + (1 : Int)))), (.r (n1) (g1))])))
 (.no))
 (.ok (.exit 2, []))
noncomputable def y_RlogLasts_18 : Nat → Option Nat := (syOf3 [79, 84, 97] [] [])
noncomputable def BL_RlogLasts_18 (l : List At) : Tr (Ex × List At) := B_RlogLasts_18 (aI l 0) (aRn l 1) (aRg l 1)
theorem eB_RlogLasts_18 (l : List At) : (exec Try.prog Γ_S9 y_RlogLasts_18 Lp_RlogLasts_9 100 (loopAt Try.f9 18) ⟨mkV lsh_RlogLasts_18 l, mkH lsh_RlogLasts_18 l⟩).bind (leafL 1 xs_RlogLasts_18) = BL_RlogLasts_18 l := by kernel_rfl
/- by hand: O_RlogLasts_18 (x0 : Int) (n1 : Nat) (g1 : Nat → Nat → Int) : Tr (Ex × List At); OL_RlogLasts_18 (l) := O_RlogLasts_18 (aI l 0) (aRn l 1) (aRg l 1); μ_RlogLasts_18 : List At → Nat; rd_RlogLasts_18 : ∀ l r, (OL_RlogLasts_18 l).val = some r → RoundA BL_RlogLasts_18 OL_RlogLasts_18 μ_RlogLasts_18 l r -/

end Go.Proofs.Ythpcjcdiaifoiaa.G
end

/-
  The loop of RlogLasts that compares.
-/
section
namespace Go.Proofs.Ythpcjcdiaifoiaa.G
open Go Go.AM Go.Proofs

def LaRows (n : Nat) (g : Nat → Nat → Int) : Prop := ∀ j : Nat, j < n → g j 0 = j + 1 ∧ g j 1 = j + 1 ∧ g j 2 = Int.tmod (j + 1) 8 ∧ g j 3 = j + 1

noncomputable def O_RlogLasts_18 (x0 : Int) (n1 : Nat) (g1 : Nat → Nat → Int) : Tr (Ex × List At) :=
  .br 0 (pdec (0 ≤ x0 ∧ n1 ≤ 1000 ∧ LaRows n1 g1)) (.ok (.exit 2, [])) .no
noncomputable def OL_RlogLasts_18 (l : List At) : Tr (Ex × List At) := O_RlogLasts_18 (aI l 0) (aRn l 1) (aRg l 1)
def μ_RlogLasts_18 (l : List At) : Nat := ((aRn l 1 : Int) - aI l 0).toNat

theorem rd_RlogLasts_18 : ∀ l r, (OL_RlogLasts_18 l).val = some r → RoundS BL_RlogLasts_18 OL_RlogLasts_18 μ_RlogLasts_18 l r := by
  intro l r hh
  unfold OL_RlogLasts_18 at hh
  obtain ⟨hc, h⟩ := guard_val hh
  clear hh
  obtain ⟨c0, c1, c2⟩ := of_pdec hc
  have hv := val_ok h
  subst hv
  unfold RoundS BL_RlogLasts_18 B_RlogLasts_18
  generalize hx0 : aI l 0 = x0 at *
  generalize hn : aRn l 1 = n at *
  generalize hg : aRg l 1 = g at *
  refine brD (fun h1 => ?_) (fun h1 => out_ (by simp) rfl (AtsEq.refl _))
  have hw : IntKind.i64.wrap (x0 + 1) = x0 + 1 := wrap_i64 (by omega) (by omega)
  have hu : IntKind.u64.wrap (x0 + 1) = x0 + 1 := wrap_u64 (by omega) (by omega)
  have hi : ((x0.toNat : Nat) : Int) = x0 := Int.toNat_of_nonneg c0
  obtain ⟨r0, r1, r2, r3⟩ := c2 x0.toNat (by omega)
  rw [hi] at r0 r1 r2 r3
  rw [hw, hu, r0, r1, r2, r3]
  have hμ : ((n : Int) - (x0 + 1)).toNat < μ_RlogLasts_18 l := by unfold μ_RlogLasts_18; rw [hx0, hn]; omega
  have hq : 0 ≤ x0 + 1 ∧ n ≤ 1000 ∧ LaRows n g := ⟨by omega, c1, c2⟩
  refine brT ?_ (brF ?_ ?_)
  · simp only [within, Bool.and_eq_true, decide_eq_true_eq]; omega
  · simp
  · exact on_ _ (.exit 2, []) (AtsEq.refl _) hμ (br_t (g := 0) (pdec_yes hq)) rfl (AtsEq.refl _)
end Go.Proofs.Ythpcjcdiaifoiaa.G
end

/-
  What functions of the seat compute, printed by a program from the explorer.
-/
section
namespace Go.Proofs.Ythpcjcdiaifoiaa.G
open Go Go.AM Go.Proofs
theorem f_RlogLasts_18 : LoopF Try.prog 1 (loopAt Try.f9 18) (loopFn 1 lsh_RlogLasts_18 xs_RlogLasts_18 OL_RlogLasts_18) :=
  loop_sat (sy := y_RlogLasts_18) (fuel := 100) (Lp := Lp_RlogLasts_9) o_S9 mixed (loopsOK_at lk_RlogLasts_9 18) rfl eB_RlogLasts_18 rd_RlogLasts_18
noncomputable def Lp_RlogLasts_18 : Loops := Loops.set Lp_RlogLasts_9 18 (loopFn 1 lsh_RlogLasts_18 xs_RlogLasts_18 OL_RlogLasts_18)
theorem lk_RlogLasts_18 : LoopsFn Try.prog 1 Lp_RlogLasts_18 Try.f9 := loopsFn_set lk_RlogLasts_9 (by kernel_rfl) f_RlogLasts_18

/-! ### RlogLasts -/

noncomputable def ish_RlogLasts : FSh := ⟨[.v false [.k (.n .i64)], .v false [.k (.n .i64)], .v false [.vw 0 1]], [.rows [.n .i64] false]⟩
noncomputable def osh_RlogLasts : FSh := ⟨[.v false [.k .b]], [.no]⟩
noncomputable def RlogLasts_c0 (x0 : Int) (x1 : Int) (n2 : Nat) (g2 : Nat → Nat → Int) : List (List Int) := Go.Proofs.Ythpcjcdiaifoiaa.G.scanL (Go.Proofs.Ythpcjcdiaifoiaa.G.Mem.crM (Go.Proofs.Ythpcjcdiaifoiaa.G.laL (Int.toNat (Go.Proofs.Ythpcjcdiaifoiaa.G.r_kind_0 x0 (13 : Int) + (1 : Int) - (1 : Int))) (1 : Int) (0 : Int) (Go.Proofs.Ythpcjcdiaifoiaa.G.Mem.fuM (Go.Proofs.Ythpcjcdiaifoiaa.G.newM (64 : Nat)) (Go.Proofs.Ythpcjcdiaifoiaa.G.r_kind_0 x1 (130 : Int)))).snd (fun (j : Nat) => g2 ((0 : Nat) + j) (0 : Nat)) n2) (3 : Int)
noncomputable def RlogLasts_c1 (x0 : Int) (x1 : Int) (n2 : Nat) (g2 : Nat → Nat → Int) : Nat := List.length (RlogLasts_c0 x0 x1 n2 g2)
noncomputable def RlogLasts_c2 (x0 : Int) (x1 : Int) : Int := Go.IntKind.wrap Go.IntKind.i64 ((Go.Proofs.Ythpcjcdiaifoiaa.G.laL (Int.toNat (Go.Proofs.Ythpcjcdiaifoiaa.G.r_kind_0 x0 (13 : Int) + (1 : Int) - (1 : Int))) (1 : Int) (0 : Int) (Go.Proofs.Ythpcjcdiaifoiaa.G.Mem.fuM (Go.Proofs.Ythpcjcdiaifoiaa.G.newM (64 : Nat)) (Go.Proofs.Ythpcjcdiaifoiaa.G.r_kind_0 x1 (130 : Int)))).fst + (1 : Int))
noncomputable def RlogLasts_c39 (x0 : Int) (x1 : Int) : Int := if (RlogLasts_c2 x0 x1) < Go.Proofs.Ythpcjcdiaifoiaa.G.r_kind_0 x0 (13 : Int) then (RlogLasts_c2 x0 x1) else Go.Proofs.Ythpcjcdiaifoiaa.G.r_kind_0 x0 (13 : Int)
noncomputable def RlogLasts_c61 (x0 : Int) (x1 : Int) (n2 : Nat) (g2 : Nat → Nat → Int) : Bool := Decidable.decide ((↑(RlogLasts_c1 x0 x1 n2 g2) : Int) > (RlogLasts_c39 x0 x1))
noncomputable def RlogLasts_c62 (x0 : Int) (x1 : Int) (n2 : Nat) (g2 : Nat → Nat → Int) : Bool := Decidable.decide ((↑(RlogLasts_c1 x0 x1 n2 g2) : Int) < (Go.Proofs.Ythpcjcdiaifoiaa.G.laL (Int.toNat (Go.Proofs.Ythpcjcdiaifoiaa.G.r_kind_0 x0 (13 : Int) + (1 : Int) - (1 : Int))) (1 : Int) (0 : Int) (Go.Proofs.Ythpcjcdiaifoiaa.G.Mem.fuM (Go.Proofs.Ythpcjcdiaifoiaa.G.newM (64 : Nat)) (Go.Proofs.Ythpcjcdiaifoiaa.G.r_kind_0 x1 (130 : Int)))).fst)
noncomputable def T_RlogLasts (x0 : Int) (x1 : Int) (n2 : Nat) (g2 : Nat → Nat → Int) : Tr (List At) :=
 .br 0 (Bool.false)
 (.ok [(.b (Bool.false))])
 (.br 0 (Go.Proofs.Ythpcjcdiaifoiaa.G.ok_kind x0 (13 : Int))
 (.br 0 (Go.Proofs.Ythpcjcdiaifoiaa.G.ok_kind x1 (130 : Int))
 (.br 0 (Go.Proofs.Ythpcjcdiaifoiaa.G.pdec ((1 : Int) ≤ (1 : Int) ∧ Go.Proofs.Ythpcjcdiaifoiaa.G.r_kind_0 x0 (13 : Int) ≤ (12 : Int) ∧ (1 : Int) ≤ (13 : Int) ∧ Go.Proofs.Ythpcjcdiaifoiaa.G.Mem.Ok (11 : Int) (Go.Proofs.Ythpcjcdiaifoiaa.G.Mem.fuM (Go.Proofs.Ythpcjcdiaifoiaa.G.newM (64 : Nat)) (Go.Proofs.Ythpcjcdiaifoiaa.G.r_kind_0 x1 (130 : Int)))))
 (.br 0 (Go.Proofs.Ythpcjcdiaifoiaa.G.pdec (Go.Proofs.Ythpcjcdiaifoiaa.G.Mem.Ok (900000 : Int) (Go.Proofs.Ythpcjcdiaifoiaa.G.laL (Int.toNat (Go.Proofs.Ythpcjcdiaifoiaa.G.r_kind_0 x0 (13 : Int) + (1 : Int) - (1 : Int))) (1 : Int) (0 : Int) (Go.Proofs.Ythpcjcdiaifoiaa.G.Mem.fuM (Go.Proofs.Ythpcjcdiaifoiaa.G.newM (64 : Nat)) (Go.Proofs.Ythpcjcdiaifoiaa.G.r_kind_0 x1 (130 : Int)))).snd))
 (.br 0 (Go.Proofs.Ythpcjcdiaifoiaa.G.pdec (Go.Proofs.Ythpcjcdiaifoiaa.G.KeepOk (fun (j : Nat) => g2 ((0 : Nat) + j) (0 : Nat)) n2))
 (.br 0 (Go.Proofs.Ythpcjcdiaifoiaa.G.pdec (List.length (Go.Proofs.Ythpcjcdiaifoiaa.G.scR (Go.Proofs.Ythpcjcdiaifoiaa.G.Mem.crM (Go.Proofs.Ythpcjcdiaifoiaa.G.laL (Int.toNat (Go.Proofs.Ythpcjcdiaifoiaa.G.r_kind_0 x0 (13 : Int) + (1 : Int) - (1 : Int))) (1 : Int) (0 : Int) (Go.Proofs.Ythpcjcdiaifoiaa.G.Mem.fuM (Go.Proofs.Ythpcjcdiaifoiaa.G.newM (64 : Nat)) (Go.Proofs.Ythpcjcdiaifoiaa.G.r_kind_0 x1 (130 : Int)))).snd (fun (j : Nat) => g2 ((0 : Nat) + j) (0 : Nat)) n2) (12 : Nat) (2 : Int)) < (20 : Nat)))
 (.br 61 (Go.Proofs.Ythpcjcdiaifoiaa.G.scanC (Go.Proofs.Ythpcjcdiaifoiaa.G.Mem.crM (Go.Proofs.Ythpcjcdiaifoiaa.G.laL (Int.toNat (Go.Proofs.Ythpcjcdiaifoiaa.G.r_kind_0 x0 (13 : Int) + (1 : Int) - (1 : Int))) (1 : Int) (0 : Int) (Go.Proofs.Ythpcjcdiaifoiaa.G.Mem.fuM (Go.Proofs.Ythpcjcdiaifoiaa.G.newM (64 : Nat)) (Go.Proofs.Ythpcjcdiaifoiaa.G.r_kind_0 x1 (130 : Int)))).snd (fun (j : Nat) => g2 ((0 : Nat) + j) (0 : Nat)) n2) (3 : Int) != (0 : Int))
 (.ok [(.b (Bool.false))])
 (.br 67 ((RlogLasts_c62 x0 x1 n2 g2))
 (.ok [(.b (Bool.false))])
 (.br 75 ((RlogLasts_c61 x0 x1 n2 g2))
 (.ok [(.b (Bool.false))])
 (.br 0 (Go.Proofs.Ythpcjcdiaifoiaa.G.pdec ((0 : Int) ≤ (0 : Int) ∧ (RlogLasts_c1 x0 x1 n2 g2) ≤ (1000 : Nat) ∧ Go.Proofs.Ythpcjcdiaifoiaa.G.LaRows (RlogLasts_c1 x0 x1 n2 g2) (Go.Proofs.Ythpcjcdiaifoiaa.G.lsF (RlogLasts_c0 x0 x1 n2 g2))))
 (.ok [(.b (Bool.true))])
 (.no)))))
 (.no))
 (.no))
 (.no))
 (.no))
 (.no))
 (.no))
noncomputable def y_RlogLasts : Nat → Option Nat := (syOf3 [61, 67, 75] [] [])
noncomputable def TL_RlogLasts (l : List At) : Tr (List At) := T_RlogLasts (aI l 0) (aI l 1) (aRn l 2) (aRg l 2)
theorem e_RlogLasts (l : List At) : (call Try.prog Γ_S9 y_RlogLasts Lp_RlogLasts_18 100 Try.f9 (mkV ish_RlogLasts l) (mkH ish_RlogLasts l)).bind (leafO ish_RlogLasts.hp.length ⟨[.v false [.k .b]], List.replicate ish_RlogLasts.hp.length .no⟩) = TL_RlogLasts l := by kernel_rfl

end Go.Proofs.Ythpcjcdiaifoiaa.G
end

/-
  Write with the power on: the line is there, sure.
-/
section
namespace Go.Proofs.Ythpcjcdiaifoiaa.G
open Go Go.AM Go.Proofs

/-- The line 's' with 'k' words stored; the other lines as in 'M0'. -/
structure WrInv (M0 : Mem) (s : Nat) (w : Nat → Int) (i : Nat) (K : Int) (M : Mem) : Prop where
  on : M.on
  n : M.n = 64
  ok : M.Ok K
  coh : Coh (M.g s) (M.h s)
  now : ∀ c, c < i → M.g s c = w c
  other : ∀ j, j ≠ s → M.g j = M0.g j ∧ M.h j = M0.h j

theorem wr_step {M0 M : Mem} {s i : Nat} {w : Nat → Int} {K : Int} (h : WrInv M0 s w i K M) (hs : s < 64) (hi : i < 8) (hK : K < 1000000) : WrInv M0 s w (i + 1) (K + 1) (M.stM (s : Int) (i : Int) (w i)) := by
  have hb : M.bad (s : Int) (i : Int) = false := bad_of ⟨by omega, by rw [h.n]; omega, by omega, by omega⟩
  have e := stM_on (v := w i) h.on hb
  have es : (s : Int).toNat = s := Int.toNat_natCast s
  have ei : (i : Int).toNat = i := Int.toNat_natCast i
  have eg : (M.stM (s : Int) (i : Int) (w i)).g = updR M.g s (stR (M.g s) i (w i)) := by rw [e, es, ei]; rfl
  have eh : (M.stM (s : Int) (i : Int) (w i)).h = updR M.h s (stH (M.h s) (M.g s 16).toNat (i : Int) (w i)) := by rw [e, es]; rfl
  refine ⟨stM_on' h.on, by rw [stM_n]; exact h.n, stM_ok h.ok hK, ?_, fun c hc => ?_, fun j hj => ?_⟩
  · rw [eg, eh, updR_self, updR_self]
    have := coh_st (w := (i : Int)) (v := w i) h.coh (h.ok.2.2.2.2 s (by rw [h.n]; exact hs)).1.1 ⟨by omega, by omega⟩
    rw [ei] at this
    exact this
  · rw [eg, updR_self]
    unfold stR
    rw [if_neg (by omega)]
    by_cases hci : c = i
    · rw [if_pos hci, hci]
    · rw [if_neg hci]; exact h.now c (by omega)
  · rw [eg, eh, updR_ne hj, updR_ne hj]
    exact h.other j hj

theorem wr_all {M0 : Mem} {s : Nat} {w : Nat → Int} (hs : s < 64) : ∀ (k i : Nat) (M : Mem) (K : Int), WrInv M0 s w i K M → i + k = 8 → K + k ≤ 900000 → (stL w (s : Int) k i M).2 = 0 ∧ WrInv M0 s w 8 (K + k) (stL w (s : Int) k i M).1
  | 0, i, M, K, h, hik, _ => by
    obtain rfl : i = 8 := by omega
    exact ⟨rfl, by show WrInv M0 s w 8 (K + (0 : Nat)) M; rw [show K + ((0 : Nat) : Int) = K by omega]; exact h⟩
  | k + 1, i, M, K, h, hik, hK => by
    have hb : M.bad (s : Int) (i : Int) = false := bad_of ⟨by omega, by rw [h.n]; omega, by omega, by omega⟩
    rw [stL, if_pos (stC_on h.on hb)]
    have := wr_all hs k (i + 1) _ (K + 1) (wr_step h hs (by omega) (by omega)) (by omega) (by omega)
    rw [show K + ((k + 1 : Nat) : Int) = K + 1 + k by omega]
    exact this

theorem feM_idle {m : Mem} {c : Int} {j : Nat} (hr : RowOk (m.g j) (m.h j)) (h : m.g j 16 = 0) : (m.feM c).g j = m.g j ∧ (m.feM c).h j = m.h j := by
  unfold Mem.feM
  cases hb : corB c with
  | true => exact ⟨rfl, rfl⟩
  | false => cases m.po with
    | true => exact ⟨rfl, rfl⟩
    | false =>
      have hc := corB_no hb
      have := hr.2.2.1 (17 + c.toNat) (by omega) (by omega)
      show feG m.n m.g m.h (17 + c.toNat) 0 j = _ ∧ feH m.n m.g m.h (17 + c.toNat) 0 j = _
      unfold feG feH
      rw [if_neg (fun hh => by omega), if_neg (fun hh => by omega)]
      exact ⟨rfl, rfl⟩

theorem wrM_law {M0 : Mem} {s : Nat} {core K : Int} {w : Nat → Int} (hon : M0.on) (hn : M0.n = 64) (hok : M0.Ok K) (hK : K ≤ 800000) (hcoh : Coh (M0.g s) (M0.h s)) (hs : s < 64) (hcore : 0 ≤ core ∧ core < 8) (hcnt : ∀ j, j < 64 → M0.g j 16 = 0) :
    (wrM w M0 core (s : Int)).2 = 0 ∧ (wrM w M0 core (s : Int)).1.on ∧ (wrM w M0 core (s : Int)).1.n = 64 ∧ (wrM w M0 core (s : Int)).1.Ok (K + 11) ∧ (wrM w M0 core (s : Int)).1.g s 16 = 0 ∧
      Coh ((wrM w M0 core (s : Int)).1.g s) ((wrM w M0 core (s : Int)).1.h s) ∧ (∀ c, c < 8 → (wrM w M0 core (s : Int)).1.g s c = w c) ∧ ∀ j, j < 64 → j ≠ s → (wrM w M0 core (s : Int)).1.g j = M0.g j ∧ (wrM w M0 core (s : Int)).1.h j = M0.h j := by
  have es : (s : Int).toNat = s := Int.toNat_natCast s
  have hb0 : M0.bad (s : Int) 7 = false := bad_of ⟨by omega, by rw [hn]; omega, by decide, by decide⟩
  have e0 := stM_on (v := 0) hon hb0
  have inv0 : WrInv M0 s w 0 (K + 1) (M0.stM (s : Int) 7 0) := by
    have eg : (M0.stM (s : Int) 7 0).g = updR M0.g s (stR (M0.g s) 7 0) := by rw [e0, es]; rfl
    have eh : (M0.stM (s : Int) 7 0).h = updR M0.h s (stH (M0.h s) (M0.g s 16).toNat 7 0) := by rw [e0, es]; rfl
    refine ⟨stM_on' hon, by rw [stM_n]; exact hn, stM_ok hok (by omega), ?_, fun c hc => absurd hc (Nat.not_lt_zero _), fun j hj => ?_⟩
    · rw [eg, eh, updR_self, updR_self]
      exact coh_st (w := 7) (v := 0) hcoh (hok.2.2.2.2 s (by rw [hn]; omega)).1.1 ⟨by decide, by decide⟩
    · rw [eg, eh, updR_ne hj, updR_ne hj]; exact ⟨rfl, rfl⟩
  obtain ⟨p2, inv⟩ := wr_all (w := w) (show s < 64 by omega) 8 0 _ (K + 1) inv0 (by omega) (by omega)
  have st0 := stC_on hon hb0
  unfold wrM
  rw [if_neg (fun hh => hh st0), if_neg (fun hh => hh p2)]
  generalize (stL w (s : Int) 8 0 (M0.stM (s : Int) 7 0)).1 = M at *
  have hb1 : M.bad (s : Int) core = false := bad_of ⟨by omega, by rw [inv.n]; omega, hcore.1, hcore.2⟩
  rw [if_neg (fun hh => hh (stC_on inv.on hb1))]
  have e1 := flM_on inv.on hb1
  have o1 : (M.flM core (s : Int)).on := flM_on' inv.on
  have k1 : (M.flM core (s : Int)).Ok (K + 10) := (flM_ok inv.ok).mono (by omega)
  have n1 : (M.flM core (s : Int)).n = 64 := flM_n.trans inv.n
  have g1 : (M.flM core (s : Int)).g = updR M.g s (flR (M.g s) core.toNat) := by rw [e1, es]; rfl
  have h1 : (M.flM core (s : Int)).h = M.h := by rw [e1]; rfl
  generalize M.flM core (s : Int) = M1 at *
  have gs : M1.g s = flR (M.g s) core.toNat := by rw [g1, updR_self]
  have c1 : Coh (M1.g s) (M1.h s) := by rw [gs, h1]; exact coh_fl inv.coh
  have now1 : ∀ c, c < 8 → M1.g s c = w c := fun c hc => by rw [gs, flR_lo (by omega)]; exact inv.now c hc
  have fl1 : M1.g s (17 + core.toNat) = M1.g s 16 := by
    have a : flR (M.g s) core.toNat (17 + core.toNat) = M.g s 16 := if_pos rfl
    have b : flR (M.g s) core.toNat 16 = M.g s 16 := flR_lo (by omega)
    rw [gs, a, b]
  have r1 := (k1.2.2.2.2 s (by rw [n1]; omega)).1
  have e2 := feM_on o1 (corB_of hcore)
  have cod : M1.feC core = 0 := by unfold Mem.feC; rw [corB_of hcore]; exact on_cod o1
  have k2 : (M1.feM core).Ok (K + 11) := (feM_ok k1).mono (by omega)
  refine ⟨cod, feM_on' o1, feM_n.trans n1, k2, ?_⟩
  have oth : ∀ j, j < 64 → j ≠ s → (M1.feM core).g j = M0.g j ∧ (M1.feM core).h j = M0.h j := fun j hj hjs => by
    have a1 : M1.g j = M0.g j := by rw [g1, updR_ne hjs]; exact (inv.other j hjs).1
    have a2 : M1.h j = M0.h j := by rw [h1]; exact (inv.other j hjs).2
    have := feM_idle (c := core) (k1.2.2.2.2 j (by rw [n1]; exact hj)).1 (by rw [a1]; exact hcnt j hj)
    rw [a1, a2] at this
    exact this
  have eg2 : (M1.feM core).g s = if M1.g s 16 > 0 then rowS (M1.g s) (M1.h s) (M1.g s 16).toNat else M1.g s := by
    rw [e2]
    show feG M1.n M1.g M1.h (17 + core.toNat) 0 s = _
    unfold feG
    rw [fl1]
    by_cases hp : M1.g s 16 > 0
    · rw [if_pos ⟨Nat.zero_le _, by omega, hp⟩, if_pos hp]
    · rw [if_neg (fun hh => hp hh.2.2), if_neg hp]
  have eh2 : (M1.feM core).h s = if M1.g s 16 > 0 then hS (M1.h s) (M1.g s 16).toNat else M1.h s := by
    rw [e2]
    show feH M1.n M1.g M1.h (17 + core.toNat) 0 s = _
    unfold feH
    rw [fl1]
    by_cases hp : M1.g s 16 > 0
    · rw [if_pos ⟨Nat.zero_le _, by omega, hp⟩, if_pos hp]
    · rw [if_neg (fun hh => hp hh.2.2), if_neg hp]
  have r16 := r1.1
  by_cases hp : M1.g s 16 > 0
  · rw [if_pos hp] at eg2 eh2
    refine ⟨by rw [eg2, rowS16]; omega, by rw [eg2, eh2]; exact coh_rowS c1 (by omega), fun c hc => by rw [eg2, rowS_now hc]; exact now1 c hc, oth⟩
  · rw [if_neg hp] at eg2 eh2
    exact ⟨by rw [eg2]; omega, by rw [eg2, eh2]; exact c1, fun c hc => by rw [eg2]; exact now1 c hc, oth⟩
end Go.Proofs.Ythpcjcdiaifoiaa.G
end

/-
  Write, whenever the power goes off.
-/
section
namespace Go.Proofs.Ythpcjcdiaifoiaa.G
open Go Go.AM Go.Proofs

/-- The stores of a write: the last word's nought, then the words. -/
def ST (w : Nat → Int) (m : Nat) : Int := if m = 0 then 7 else if m = 1 then 0 else if m % 2 = 0 then ((m / 2 - 1 : Nat) : Int) else w (m / 2 - 1)

theorem ST_w (w : Nat → Int) (k : Nat) : ST w ((k + 1) * 2) = k ∧ ST w ((k + 1) * 2 + 1) = w k := by
  unfold ST
  rw [if_neg (by omega), if_neg (by omega), if_pos (by omega), if_neg (by omega), if_neg (by omega), if_neg (by omega), show (k + 1) * 2 / 2 - 1 = k by omega, show ((k + 1) * 2 + 1) / 2 - 1 = k by omega]
  exact ⟨rfl, rfl⟩

theorem apF_ST {s w : Nat → Int} : ∀ (k : Nat), k ≤ 8 → ∀ c, c < 8 → apF s (ST w) 0 (k + 1) c = if c < k then w c else if c = 7 then 0 else s c
  | 0, _, c, _ => by
    rw [apF_succ]
    show (if c = (ST w ((0 + 0) * 2)).toNat then ST w ((0 + 0) * 2 + 1) else s c) = _
    rw [if_neg (Nat.not_lt_zero c)]
    rfl
  | k + 1, hk, c, hc => by
    rw [apF_succ]
    show (if c = (ST w ((0 + (k + 1)) * 2)).toNat then ST w ((0 + (k + 1)) * 2 + 1) else apF s (ST w) 0 (k + 1) c) = _
    rw [Nat.zero_add, (ST_w w k).1, (ST_w w k).2, Int.toNat_natCast, apF_ST k (by omega) c hc]
    by_cases hck : c = k
    · subst hck
      rw [if_pos rfl, if_pos (Nat.lt_succ_self _)]
    · rw [if_neg hck]
      by_cases hlt : c < k
      · rw [if_pos hlt, if_pos (by omega)]
      · rw [if_neg hlt, if_neg (show ¬ c < k + 1 by omega)]

/-- The line 's' has 'j' of the stores, none of them sure; the other lines are as in 'M0'. -/
structure FzInv (M0 : Mem) (s : Nat) (w : Nat → Int) (j : Nat) (K : Int) (M : Mem) : Prop where
  n : M.n = 64
  ok : M.Ok K
  cnt : M.g s 16 = j
  sur : ∀ c, c < 8 → M.g s (8 + c) = M0.g s (8 + c)
  st : ∀ k, k < j → M.h s (k * 2) = ST w (k * 2) ∧ M.h s (k * 2 + 1) = ST w (k * 2 + 1)
  coh : Coh (M.g s) (M.h s)
  other : ∀ i, i ≠ s → M.g i = M0.g i ∧ M.h i = M0.h i

theorem FzInv.mono {M0 M : Mem} {s j : Nat} {w : Nat → Int} {K K' : Int} (h : FzInv M0 s w j K M) (hK : K ≤ K') : FzInv M0 s w j K' M := ⟨h.n, h.ok.mono hK, h.cnt, h.sur, h.st, h.coh, h.other⟩

theorem FzInv.stp {M0 M : Mem} {s j : Nat} {w : Nat → Int} {K : Int} (h : FzInv M0 s w j K M) : FzInv M0 s w j (K + 1) M.stp := ⟨h.n, stp_ok h.ok, h.cnt, h.sur, h.st, h.coh, h.other⟩

theorem fz_step {M0 M : Mem} {s j : Nat} {w : Nat → Int} {K : Int} {wd v : Int} (h : FzInv M0 s w j K M) (hs : s < 64) (hwd : 0 ≤ wd ∧ wd < 8) (h1 : ST w (j * 2) = wd) (h2 : ST w (j * 2 + 1) = v) (hK : K < 1000000) :
    (M.stC (s : Int) wd = 0 ∧ FzInv M0 s w (j + 1) (K + 1) (M.stM (s : Int) wd v)) ∨ (M.stC (s : Int) wd ≠ 0 ∧ FzInv M0 s w j (K + 1) (M.stM (s : Int) wd v)) := by
  have hb : M.bad (s : Int) wd = false := bad_of ⟨by omega, by rw [h.n]; omega, hwd.1, hwd.2⟩
  have es : (s : Int).toNat = s := Int.toNat_natCast s
  have hok := stM_ok (i := (s : Int)) (w := wd) (v := v) h.ok hK
  unfold Mem.stC
  rw [hb]
  cases hp : M.po with
  | true =>
    have e : M.stM (s : Int) wd v = M.stp := by unfold Mem.stM; rw [hb, hp]; rfl
    rw [e]
    exact .inr ⟨by show M.cod ≠ 0; rw [po_cod4 hp]; decide, h.stp⟩
  | false =>
    have e : M.stM (s : Int) wd v = M.stp.wit (updR M.g s (stR (M.g s) wd.toNat v)) (updR M.h s (stH (M.h s) (M.g s 16).toNat wd v)) := by unfold Mem.stM; rw [hb, hp, es]; rfl
    refine .inl ⟨po_cod hp, ?_⟩
    have hc : (M.g s 16).toNat = j := by rw [h.cnt, Int.toNat_natCast]
    have eg : (M.stM (s : Int) wd v).g = updR M.g s (stR (M.g s) wd.toNat v) := by rw [e]; rfl
    have eh : (M.stM (s : Int) wd v).h = updR M.h s (stH (M.h s) j wd v) := by rw [e, ← hc]; rfl
    refine ⟨by rw [stM_n]; exact h.n, hok, ?_, fun c hc' => ?_, fun k hk => ?_, ?_, fun i hi => ?_⟩
    · rw [eg, updR_self]
      have : stR (M.g s) wd.toNat v 16 = M.g s 16 + 1 := if_pos rfl
      rw [this, h.cnt]; omega
    · rw [eg, updR_self]
      unfold stR
      rw [if_neg (by omega), if_neg (by omega)]
      exact h.sur c hc'
    · rw [eh, updR_self]
      unfold stH
      by_cases hkj : k = j
      · subst hkj
        rw [if_pos rfl, if_neg (by omega), if_pos rfl, h1, h2]
        exact ⟨rfl, rfl⟩
      · rw [if_neg (by omega), if_neg (by omega), if_neg (by omega), if_neg (by omega)]
        exact h.st k (by omega)
    · rw [eg, eh, updR_self, updR_self, ← hc]
      exact coh_st h.coh (h.ok.2.2.2.2 s (by rw [h.n]; exact hs)).1.1 hwd
    · rw [eg, eh, updR_ne hi, updR_ne hi]
      exact h.other i hi

theorem fz_all {M0 : Mem} {s : Nat} {w : Nat → Int} (hs : s < 64) : ∀ (k i : Nat) (M : Mem) (K : Int), FzInv M0 s w (i + 1) K M → i + k = 8 → K + k ≤ 900000 →
    ((stL w (s : Int) k i M).2 = 0 ∧ FzInv M0 s w 9 (K + k) (stL w (s : Int) k i M).1) ∨ ((stL w (s : Int) k i M).2 ≠ 0 ∧ ∃ j, j ≤ 9 ∧ FzInv M0 s w j (K + k) (stL w (s : Int) k i M).1)
  | 0, i, M, K, h, hik, _ => by
    obtain rfl : i = 8 := by omega
    exact .inl ⟨rfl, h.mono (by omega)⟩
  | k + 1, i, M, K, h, hik, hK => by
    rw [stL]
    rcases fz_step (wd := (i : Int)) (v := w i) h hs ⟨by omega, by omega⟩ (ST_w w i).1 (ST_w w i).2 (by omega) with ⟨c, f⟩ | ⟨c, f⟩
    · rw [if_pos c]
      have := fz_all hs k (i + 1) _ (K + 1) f (by omega) (by omega)
      rw [show K + ((k + 1 : Nat) : Int) = K + 1 + k by omega]
      exact this
    · rw [if_neg c]
      exact .inr ⟨c, i + 1, by omega, f.mono (by omega)⟩

/-- What was written whole. -/
structure Whole (M0 : Mem) (s : Nat) (w : Nat → Int) (K : Int) (M : Mem) : Prop where
  n : M.n = 64
  ok : M.Ok K
  cnt : M.g s 16 = 0
  coh : Coh (M.g s) (M.h s)
  now : ∀ c, c < 8 → M.g s c = w c
  other : ∀ i, i < 64 → i ≠ s → M.g i = M0.g i ∧ M.h i = M0.h i

theorem wrM_any {M0 : Mem} {s : Nat} {core K : Int} {w : Nat → Int} (hn : M0.n = 64) (hok : M0.Ok K) (hK : K ≤ 800000) (hcoh : Coh (M0.g s) (M0.h s)) (hs : s < 64) (hcore : 0 ≤ core ∧ core < 8) (hcnt : ∀ j, j < 64 → M0.g j 16 = 0) :
    ((wrM w M0 core (s : Int)).2 = 0 ∧ Whole M0 s w (K + 11) (wrM w M0 core (s : Int)).1) ∨ ((wrM w M0 core (s : Int)).2 ≠ 0 ∧ ∃ j, j ≤ 9 ∧ FzInv M0 s w j (K + 11) (wrM w M0 core (s : Int)).1) := by
  have es : (s : Int).toNat = s := Int.toNat_natCast s
  have inv0 : FzInv M0 s w 0 K M0 := ⟨hn, hok, hcnt s hs, fun _ _ => rfl, fun k hk => absurd hk (Nat.not_lt_zero _), hcoh, fun _ _ => ⟨rfl, rfl⟩⟩
  unfold wrM
  rcases fz_step (wd := 7) (v := 0) inv0 hs ⟨by decide, by decide⟩ rfl rfl (by omega) with ⟨c, f⟩ | ⟨c, f⟩
  · rw [if_neg (fun hh => hh c)]
    rcases fz_all hs 8 0 _ (K + 1) f (by decide) (by omega) with ⟨c2, f2⟩ | ⟨c2, j, hj, f2⟩
    · rw [if_neg (fun hh => hh c2)]
      generalize (stL w (s : Int) 8 0 (M0.stM (s : Int) 7 0)).1 = M at *
      have f2 : FzInv M0 s w 9 (K + 9) M := f2.mono (by omega)
      have hb1 : M.bad (s : Int) core = false := bad_of ⟨by omega, by rw [f2.n]; omega, hcore.1, hcore.2⟩
      have sc : M.stC (s : Int) core = M.cod := by unfold Mem.stC; rw [hb1]; rfl
      rw [sc]
      cases hp : M.po with
      | true =>
        have e1 : M.flM core (s : Int) = M.stp := by unfold Mem.flM; rw [hb1, hp]; rfl
        have c4 : M.cod ≠ 0 := by rw [po_cod4 hp]; decide
        rw [if_pos c4, e1]
        exact .inr ⟨c4, 9, by decide, f2.stp.mono (by omega)⟩
      | false =>
        have c0 : ¬ M.cod ≠ 0 := by rw [po_cod hp]; decide
        rw [if_neg c0]
        have e1 : M.flM core (s : Int) = M.stp.wit (updR M.g s (flR (M.g s) core.toNat)) M.h := by unfold Mem.flM; rw [hb1, hp, es]; rfl
        have k1 : (M.flM core (s : Int)).Ok (K + 10) := (flM_ok f2.ok).mono (by omega)
        have g1 : (M.flM core (s : Int)).g = updR M.g s (flR (M.g s) core.toNat) := by rw [e1]; rfl
        have h1 : (M.flM core (s : Int)).h = M.h := by rw [e1]; rfl
        have n1 : (M.flM core (s : Int)).n = 64 := flM_n.trans f2.n
        generalize M.flM core (s : Int) = M1 at *
        have gs : M1.g s = flR (M.g s) core.toNat := by rw [g1, updR_self]
        have f3 : FzInv M0 s w 9 (K + 10) M1 := ⟨n1, k1, by rw [gs, flR_lo (by omega)]; exact f2.cnt, fun c hc => by rw [gs, flR_lo (by omega)]; exact f2.sur c hc, fun k hk => by rw [h1]; exact f2.st k hk, by rw [gs, h1]; exact coh_fl f2.coh, fun i hi => by rw [g1, h1, updR_ne hi]; exact f2.other i hi⟩
        have fl1 : M1.g s (17 + core.toNat) = 9 := by
          have a : flR (M.g s) core.toNat (17 + core.toNat) = M.g s 16 := if_pos rfl
          rw [gs, a, f2.cnt]; rfl
        have hcb := corB_of hcore
        have fc : M1.feC core = M1.cod := by unfold Mem.feC; rw [hcb]; rfl
        rw [fc]
        cases hp1 : M1.po with
        | true =>
          have e2 : M1.feM core = M1.stp := by unfold Mem.feM; rw [hcb, hp1]; rfl
          rw [e2]
          exact .inr ⟨by show M1.cod ≠ 0; rw [po_cod4 hp1]; decide, 9, by decide, f3.stp.mono (by omega)⟩
        | false =>
          have e2 : M1.feM core = M1.stp.wit (feG M1.n M1.g M1.h (17 + core.toNat) 0) (feH M1.n M1.g M1.h (17 + core.toNat) 0) := by unfold Mem.feM; rw [hcb, hp1]; rfl
          have k2 : (M1.feM core).Ok (K + 11) := (feM_ok k1).mono (by omega)
          have eg2 : (M1.feM core).g s = rowS (M1.g s) (M1.h s) 9 := by
            rw [e2]
            show feG M1.n M1.g M1.h (17 + core.toNat) 0 s = _
            unfold feG
            rw [fl1, if_pos ⟨Nat.zero_le _, by omega, by decide⟩]
            rfl
          have eh2 : (M1.feM core).h s = hS (M1.h s) 9 := by
            rw [e2]
            show feH M1.n M1.g M1.h (17 + core.toNat) 0 s = _
            unfold feH
            rw [fl1, if_pos ⟨Nat.zero_le _, by omega, by decide⟩]
            rfl
          have oth : ∀ i, i < 64 → i ≠ s → (M1.feM core).g i = M0.g i ∧ (M1.feM core).h i = M0.h i := fun i hi his => by
            obtain ⟨a1, a2⟩ := f3.other i his
            have := feM_idle (c := core) (k1.2.2.2.2 i (by rw [n1]; exact hi)).1 (by rw [a1]; exact hcnt i hi)
            rw [a1, a2] at this
            exact this
          refine .inl ⟨po_cod hp1, feM_n.trans n1, k2, by rw [eg2, rowS16, f3.cnt]; rfl, by rw [eg2, eh2]; exact coh_rowS f3.coh (by rw [f3.cnt]; decide), fun c hc => ?_, oth⟩
          rw [eg2, rowS_now hc, f3.coh c hc, f3.cnt]
          have hst : apF (sur (M1.g s)) (M1.h s) 0 9 c = apF (sur (M1.g s)) (ST w) 0 9 c := apF_pt 9 0 _ _ _ _ rfl fun k _ hk => f3.st k (by omega)
          show apF (sur (M1.g s)) (M1.h s) 0 9 c = w c
          rw [hst, apF_ST 8 (by decide) c hc, if_pos hc]
    · rw [if_pos c2]
      exact .inr ⟨c2, j, hj, f2.mono (by omega)⟩
  · rw [if_pos c]
    exact .inr ⟨c, 0, by decide, f.mono (by omega)⟩

/-- Behind a crash the line has some first stores. -/
theorem fz_crash {M0 M : Mem} {s j : Nat} {w : Nat → Int} {K : Int} {q : Nat → Int} {kn : Nat} (h : FzInv M0 s w j K M) (hs : s < 64) : ∃ k, k ≤ j ∧ ∀ c, c < 8 → (M.crM q kn).g s c = apF (sur (M0.g s)) (ST w) 0 k c := by
  have hap : ∀ k, k ≤ j → ∀ c, c < 8 → apF (sur (M.g s)) (M.h s) 0 k c = apF (sur (M0.g s)) (ST w) 0 k c := fun k hk c hc => apF_pt k 0 _ _ _ _ (h.sur c hc) fun i _ hi => h.st i (by omega)
  have hcn : (M.g s 16).toNat = j := by rw [h.cnt, Int.toNat_natCast]
  show ∃ k, k ≤ j ∧ ∀ c, c < 8 → crG M.n M.g M.h q kn 0 s c = _
  unfold crG
  by_cases hp : 0 ≤ s ∧ s < M.n ∧ M.g s 16 > 0
  · rw [if_pos hp]
    have hle : crK q kn (cntU M.g 0 (s - 0)) (M.g s 16) ≤ j := by
      unfold crK
      have := Int.emod_nonneg (kv q kn (cntU M.g 0 (s - 0))) (show M.g s 16 + 1 ≠ 0 by omega)
      have := Int.emod_lt_of_pos (kv q kn (cntU M.g 0 (s - 0))) (show 0 < M.g s 16 + 1 by omega)
      omega
    exact ⟨_, hle, fun c hc => by rw [crR_now hc]; exact hap _ hle c hc⟩
  · rw [if_neg hp]
    have : j = 0 := by
      have := h.n
      have := h.cnt
      omega
    subst this
    exact ⟨0, Nat.le_refl _, fun c hc => by rw [h.coh c hc, hcn]; exact hap 0 (Nat.le_refl _) c hc⟩
end Go.Proofs.Ythpcjcdiaifoiaa.G
end

/-
  The log: which record each line holds.
-/
section
namespace Go.Proofs.Ythpcjcdiaifoiaa.G
open Go Go.AM Go.Proofs

def LineIs (r : Nat → Int) (o : Option (List Int)) : Prop := match o with | none => lrB r = false | some x => lrB r = true ∧ recOf r = x

theorem LineIs.congr {r r' : Nat → Int} {o : Option (List Int)} (h : LineIs r o) (e : ∀ c, c < 8 → r' c = r c) : LineIs r' o := by
  have e0 := e 0 (by decide)
  have e1 := e 1 (by decide)
  have e2 := e 2 (by decide)
  have e3 := e 3 (by decide)
  have e4 := e 4 (by decide)
  have e5 := e 5 (by decide)
  have e6 := e 6 (by decide)
  have e7 := e 7 (by decide)
  have k : lrB r' = lrB r := by unfold lrB; rw [e0, e1, e2, e3, e4, e5, e6, e7]
  have k2 : recOf r' = recOf r := by unfold recOf lr0 lr1 lr2 lr3; rw [e0, e1, e2, e3, e4, e5, e6, e7]
  unfold LineIs at h ⊢
  rw [k, k2]
  exact h

theorem lineIs_zero : LineIs (fun _ => 0) none := by
  show lrB (fun _ => 0) = false
  cases hb : lrB (fun _ => 0) with
  | false => rfl
  | true =>
    have := (lread_of hb).1
    revert this
    decide

theorem lineIs_line {x0 x1 x2 x3 : Int} (hr : rb x0 x1 x2 = true) : LineIs (llW x0 x1 x2 x3) (some [x0, x1, x2, x3]) := by
  obtain ⟨q4, q0, q1, q2, q3⟩ := lread_line (x3 := x3) hr
  refine ⟨q4, ?_⟩
  show [_, _, _, _] = _
  unfold lr0 lr1 lr2 lr3
  show [r_lRead_0 _ _ _ _ _ _ _ _, r_lRead_1 _ _ _ _ _ _ _ _, r_lRead_2 _ _ _ _ _ _ _ _, r_lRead_3 _ _ _ _ _ _ _ _] = _
  rw [show llW x0 x1 x2 x3 0 = r_lLine_0 x0 x1 x2 x3 from rfl, show llW x0 x1 x2 x3 1 = r_lLine_1 x0 x1 x2 x3 from rfl, show llW x0 x1 x2 x3 2 = r_lLine_2 x0 x1 x2 x3 from rfl, show llW x0 x1 x2 x3 3 = r_lLine_3 x0 x1 x2 x3 from rfl, show llW x0 x1 x2 x3 4 = r_lLine_4 x0 x1 x2 x3 from rfl, show llW x0 x1 x2 x3 5 = r_lLine_5 x0 x1 x2 x3 from rfl, show llW x0 x1 x2 x3 6 = r_lLine_6 x0 x1 x2 x3 from rfl, show llW x0 x1 x2 x3 7 = r_lLine_7 x0 x1 x2 x3 from rfl, q0, q1, q2, q3]

structure LogInv (S : Nat → Option (List Int)) (K : Int) (M : Mem) : Prop where
  n : M.n = 64
  ok : M.Ok K
  cnt : ∀ j, j < 64 → M.g j 16 = 0
  coh : ∀ j, j < 64 → Coh (M.g j) (M.h j)
  is : ∀ j, j < 64 → LineIs (M.g j) (S j)

theorem log_new : LogInv (fun _ => none) 0 (newM 64) := ⟨rfl, newM_ok (by decide), fun _ _ => rfl, fun _ _ _ _ => rfl, fun _ _ => lineIs_zero⟩

def slotOk (s : Int) (o : Option (List Int)) : Bool := match o with | none => true | some x => decide (rkey x ≤ s)
def freeS (S : Nat → Option (List Int)) (s : Int) : Nat → Nat → Option Nat
  | 0, _ => none
  | k + 1, i => bif slotOk s (S i) then some i else freeS S s k (i + 1)
def putL (S : Nat → Option (List Int)) (c : Nat) (s : Int) (x : List Int) : (Nat → Option (List Int)) × Int :=
  match freeS S s 4 (2 + 4 * c) with
  | none => (S, 11)
  | some j => (fun i => if i = j then some x else S i, 0)

theorem freeS_in {S : Nat → Option (List Int)} {s : Int} : ∀ {k i j : Nat}, freeS S s k i = some j → i ≤ j ∧ j < i + k ∧ slotOk s (S j) = true
  | 0, i, j, h => by cases h
  | k + 1, i, j, h => by
    rw [freeS] at h
    cases hk : slotOk s (S i) with
    | true =>
      rw [hk] at h
      have : i = j := by simpa using h
      subst this
      exact ⟨Nat.le_refl _, by omega, hk⟩
    | false =>
      rw [hk] at h
      obtain ⟨a, b, c⟩ := freeS_in (k := k) (i := i + 1) h
      exact ⟨by omega, by omega, c⟩

section
variable {S : Nat → Option (List Int)} {K : Int} {M : Mem}

theorem ldC_at (h : LogInv S K M) (ho : M.off = false) {j : Nat} (hj : j < 64) : M.ldC (j : Int) = 0 := by
  unfold Mem.ldC
  rw [decide_eq_false (by omega), decide_eq_false (by rw [h.n]; omega), ho]
  rfl
theorem ln_at (h : LogInv S K M) (ho : M.off = false) {j : Nat} (hj : j < 64) : M.ln (j : Int) = M.g j := by
  funext c
  unfold Mem.ln Mem.ldW
  rw [ldC_at h ho hj, Int.toNat_natCast]
  rfl

theorem frOk_at (h : LogInv S K M) (ho : M.off = false) {j : Nat} (hj : j < 64) (s : Int) : frOk M s (j : Int) = slotOk s (S j) := by
  unfold frOk
  rw [ln_at h ho hj]
  have := h.is j hj
  unfold slotOk
  cases hS : S j with
  | none =>
    rw [hS] at this
    have this : lrB (M.g j) = false := this
    rw [this]; rfl
  | some x =>
    rw [hS] at this
    obtain ⟨a, b⟩ := this
    rw [a]
    show decide (lr0 (M.g j) ≤ s) = decide (rkey x ≤ s)
    rw [← b]
    rfl

theorem frL_at (h : LogInv S K M) (ho : M.off = false) (s : Int) : ∀ (k i : Nat), i + k ≤ 64 → frL M s k (i : Int) = match freeS S s k i with | none => (false, 0, 0) | some j => (true, 0, (j : Int))
  | 0, _, _ => rfl
  | k + 1, i, hi => by
    rw [frL, freeS, ldC_at h ho (by omega), frOk_at h ho (by omega)]
    cases slotOk s (S i) with
    | true => rfl
    | false => exact frL_at h ho s k (i + 1) (by omega)

theorem free_none (h : LogInv S K M) (ho : M.off = false) {s : Int} {c : Nat} (hc : c < 8) (hf : freeS S s 4 (2 + 4 * c) = none) : faC M (c : Int) s = 11 := by
  have e := frL_at h ho s 4 (2 + 4 * c) (by omega)
  rw [hf] at e
  unfold faC coreB
  rw [decide_eq_false (by omega), decide_eq_false (by omega), show (2 + 4 * (c : Int)) = ((2 + 4 * c : Nat) : Int) by omega, e]
  rfl
theorem free_some (h : LogInv S K M) (ho : M.off = false) {s : Int} {c j : Nat} (hc : c < 8) (hf : freeS S s 4 (2 + 4 * c) = some j) : faC M (c : Int) s = 0 ∧ faA M (c : Int) s = (j : Int) := by
  have e := frL_at h ho s 4 (2 + 4 * c) (by omega)
  rw [hf] at e
  have hj := (freeS_in hf).1
  unfold faC faA coreB
  rw [decide_eq_false (by omega), decide_eq_false (by omega), show (2 + 4 * (c : Int)) = ((2 + 4 * c : Nat) : Int) by omega, e]
  refine ⟨?_, rfl⟩
  show (bif ((j : Int) == 0) then (11 : Int) else 0) = 0
  rw [show ((j : Int) == 0) = false by rw [beq_eq_false_iff_ne]; omega]
  rfl

theorem app_law (h : LogInv S K M) (hon : M.on) (hK : K ≤ 800000) {c : Nat} (hc : c < 8) {s x0 x1 x2 x3 : Int} (hr : rb x0 x1 x2 = true) :
    (rapA (llW x0 x1 x2 x3) 0 M (c : Int) s).2 = (putL S c s [x0, x1, x2, x3]).2 ∧ (rapA (llW x0 x1 x2 x3) 0 M (c : Int) s).1.on ∧ LogInv (putL S c s [x0, x1, x2, x3]).1 (K + 11) (rapA (llW x0 x1 x2 x3) 0 M (c : Int) s).1 := by
  unfold rapA putL
  cases hf : freeS S s 4 (2 + 4 * c) with
  | none =>
    rw [free_none h hon.1 hc hf]
    exact ⟨rfl, hon, h.n, h.ok.mono (by omega), h.cnt, h.coh, h.is⟩
  | some j =>
    obtain ⟨f1, f2⟩ := free_some h hon.1 hc hf
    obtain ⟨i1, i2, _⟩ := freeS_in hf
    rw [f1, f2]
    show (wrM (llW x0 x1 x2 x3) M (c : Int) (j : Int)).2 = 0 ∧ (wrM (llW x0 x1 x2 x3) M (c : Int) (j : Int)).1.on ∧ LogInv (fun i => if i = j then some [x0, x1, x2, x3] else S i) (K + 11) (wrM (llW x0 x1 x2 x3) M (c : Int) (j : Int)).1
    obtain ⟨w1, w2, w3, w4, w5, w6, w7, w8⟩ := wrM_law (core := (c : Int)) (w := llW x0 x1 x2 x3) hon h.n h.ok hK (h.coh j (by omega)) (by omega) ⟨by omega, by omega⟩ h.cnt
    refine ⟨w1, w2, w3, w4, fun i hi => ?_, fun i hi => ?_, fun i hi => ?_⟩
    · by_cases hij : i = j
      · rw [hij]; exact w5
      · rw [(w8 i hi hij).1]; exact h.cnt i hi
    · by_cases hij : i = j
      · rw [hij]; exact w6
      · rw [(w8 i hi hij).1, (w8 i hi hij).2]; exact h.coh i hi
    · by_cases hij : i = j
      · subst hij
        show LineIs _ (if i = i then _ else _)
        rw [if_pos rfl]
        exact (lineIs_line hr).congr w7
      · show LineIs _ (if i = j then _ else _)
        rw [if_neg hij, (w8 i hi hij).1]
        exact h.is i hi

theorem scC_at (h : LogInv S K M) (ho : M.off = false) : ∀ (k i : Nat), i + k ≤ 64 → scC M k (i : Int) = 0
  | 0, _, _ => rfl
  | k + 1, i, hi => by
    rw [scC, ldC_at h ho (by omega)]
    exact scC_at h ho k (i + 1) (by omega)
def scS (S : Nat → Option (List Int)) : Nat → Nat → List (List Int)
  | 0, _ => []
  | k + 1, i => match S i with | none => scS S k (i + 1) | some x => x :: scS S k (i + 1)
theorem scR_at (h : LogInv S K M) (ho : M.off = false) : ∀ (k i : Nat), i + k ≤ 64 → scR M k (i : Int) = scS S k i
  | 0, _, _ => rfl
  | k + 1, i, hi => by
    rw [scR, ldC_at h ho (by omega), ln_at h ho (by omega), scS]
    have hk := scR_at h ho k (i + 1) (by omega)
    have := h.is i (by omega)
    cases hS : S i with
    | none =>
      rw [hS] at this
      have this : lrB (M.g i) = false := this
      rw [this]
      exact hk
    | some x =>
      rw [hS] at this
      obtain ⟨a, b⟩ := this
      rw [a, b]
      show x :: scR M k ((i + 1 : Nat) : Int) = x :: scS S k (i + 1)
      rw [hk]
theorem scan_at (h : LogInv S K M) (ho : M.off = false) {k : Nat} (hk : 1 ≤ k) (hk8 : k ≤ 8) : scanC M (k : Int) = 0 ∧ scanL M (k : Int) = isort (scS S (4 * k) 2) ∧ (scR M (4 * (k : Int)).toNat 2) = scS S (4 * k) 2 := by
  have e1 := scC_at h ho (4 * k) 2 (by omega)
  have e2 := scR_at h ho (4 * k) 2 (by omega)
  have e : (4 * (k : Int)).toNat = 4 * k := by omega
  unfold scanC scanL coresB
  rw [decide_eq_false (by omega), decide_eq_false (by omega), e]
  have e1 : scC M (4 * k) 2 = 0 := e1
  have e2 : scR M (4 * k) 2 = scS S (4 * k) 2 := e2
  rw [e1, e2]
  exact ⟨rfl, rfl, rfl⟩
end
end Go.Proofs.Ythpcjcdiaifoiaa.G
end

/-
  Seals that are not nought.
-/
section
namespace Go.Proofs.Ythpcjcdiaifoiaa.G
open Go Go.AM Go.Proofs

def sealB (i : Nat) : Bool := !(Nat.beq (sealS i 0 0 0) 0) && (!(Nat.beq (sealS i i 0 0) 0) && (!(Nat.beq (sealS i i (i % 8 : Nat) 0) 0) && !(Nat.beq (sealS i i (i % 8 : Nat) i) 0)))
theorem seal_all : ((List.range 12).all fun d => sealB (d + 1)) = true := by kernel_rfl
end Go.Proofs.Ythpcjcdiaifoiaa.G
end

/-
  What functions of the seat compute, printed by a program from the explorer.
-/
section
namespace Go.Proofs.Ythpcjcdiaifoiaa.G
open Go Go.AM Go.Proofs
/-! ### RlogAgain -/

noncomputable def ish_RlogAgain : FSh := ⟨[.v false [.k (.n .i64)], .v false [.k (.n .i64)]], []⟩
noncomputable def osh_RlogAgain : FSh := ⟨[.v false [.k .b]], []⟩
noncomputable def T_RlogAgain (x0 : Int) (x1 : Int) : Tr (List At) :=
 .br 0 (Bool.false)
 (.ok [(.b (Bool.false))])
 (.br 0 (Go.Proofs.Ythpcjcdiaifoiaa.G.ok_kind x0 (8 : Int))
 (.br 0 (Go.Proofs.Ythpcjcdiaifoiaa.G.ok_kind x1 (7 : Int))
 (.br 0 (Go.Proofs.Ythpcjcdiaifoiaa.G.pdec (Go.Proofs.Ythpcjcdiaifoiaa.G.Mem.Ok (880000 : Int) (Go.Proofs.Ythpcjcdiaifoiaa.G.newM (64 : Nat))))
 (.br 38 ((Go.Proofs.Ythpcjcdiaifoiaa.G.rapA (Go.Proofs.Ythpcjcdiaifoiaa.G.llW (1 : Int) (0 : Int) (0 : Int) (0 : Int)) (0 : Int) (Go.Proofs.Ythpcjcdiaifoiaa.G.newM (64 : Nat)) (Go.Proofs.Ythpcjcdiaifoiaa.G.r_kind_0 x0 (8 : Int)) (0 : Int)).snd != (0 : Int))
 (.ok [(.b (Bool.false))])
 (.br 0 (Go.Proofs.Ythpcjcdiaifoiaa.G.pdec (Go.Proofs.Ythpcjcdiaifoiaa.G.Mem.Ok (880000 : Int) (Go.Proofs.Ythpcjcdiaifoiaa.G.rapA (Go.Proofs.Ythpcjcdiaifoiaa.G.llW (1 : Int) (0 : Int) (0 : Int) (0 : Int)) (0 : Int) (Go.Proofs.Ythpcjcdiaifoiaa.G.newM (64 : Nat)) (Go.Proofs.Ythpcjcdiaifoiaa.G.r_kind_0 x0 (8 : Int)) (0 : Int)).fst))
 (.br 38 ((Go.Proofs.Ythpcjcdiaifoiaa.G.rapA (Go.Proofs.Ythpcjcdiaifoiaa.G.llW (2 : Int) (0 : Int) (0 : Int) (0 : Int)) (0 : Int) (Go.Proofs.Ythpcjcdiaifoiaa.G.rapA (Go.Proofs.Ythpcjcdiaifoiaa.G.llW (1 : Int) (0 : Int) (0 : Int) (0 : Int)) (0 : Int) (Go.Proofs.Ythpcjcdiaifoiaa.G.newM (64 : Nat)) (Go.Proofs.Ythpcjcdiaifoiaa.G.r_kind_0 x0 (8 : Int)) (0 : Int)).fst (Go.Proofs.Ythpcjcdiaifoiaa.G.r_kind_0 x0 (8 : Int)) (0 : Int)).snd != (0 : Int))
 (.ok [(.b (Bool.false))])
 (.br 0 (Go.Proofs.Ythpcjcdiaifoiaa.G.pdec (Go.Proofs.Ythpcjcdiaifoiaa.G.Mem.Ok (880000 : Int) (Go.Proofs.Ythpcjcdiaifoiaa.G.rapA (Go.Proofs.Ythpcjcdiaifoiaa.G.llW (2 : Int) (0 : Int) (0 : Int) (0 : Int)) (0 : Int) (Go.Proofs.Ythpcjcdiaifoiaa.G.rapA (Go.Proofs.Ythpcjcdiaifoiaa.G.llW (1 : Int) (0 : Int) (0 : Int) (0 : Int)) (0 : Int) (Go.Proofs.Ythpcjcdiaifoiaa.G.newM (64 : Nat)) (Go.Proofs.Ythpcjcdiaifoiaa.G.r_kind_0 x0 (8 : Int)) (0 : Int)).fst (Go.Proofs.Ythpcjcdiaifoiaa.G.r_kind_0 x0 (8 : Int)) (0 : Int)).fst))
 (.br 38 ((Go.Proofs.Ythpcjcdiaifoiaa.G.rapA (Go.Proofs.Ythpcjcdiaifoiaa.G.llW (3 : Int) (0 : Int) (0 : Int) (0 : Int)) (0 : Int) (Go.Proofs.Ythpcjcdiaifoiaa.G.rapA (Go.Proofs.Ythpcjcdiaifoiaa.G.llW (2 : Int) (0 : Int) (0 : Int) (0 : Int)) (0 : Int) (Go.Proofs.Ythpcjcdiaifoiaa.G.rapA (Go.Proofs.Ythpcjcdiaifoiaa.G.llW (1 : Int) (0 : Int) (0 : Int) (0 : Int)) (0 : Int) (Go.Proofs.Ythpcjcdiaifoiaa.G.newM (64 : Nat)) (Go.Proofs.Ythpcjcdiaifoiaa.G.r_kind_0 x0 (8 : Int)) (0 : Int)).fst (Go.Proofs.Ythpcjcdiaifoiaa.G.r_kind_0 x0 (8 : Int)) (0 : Int)).fst (Go.Proofs.Ythpcjcdiaifoiaa.G.r_kind_0 x0 (8 : Int)) (0 : Int)).snd != (0 : Int))
 (.ok [(.b (Bool.false))])
 (.br 0 (Go.Proofs.Ythpcjcdiaifoiaa.G.pdec (Go.Proofs.Ythpcjcdiaifoiaa.G.Mem.Ok (880000 : Int) (Go.Proofs.Ythpcjcdiaifoiaa.G.rapA (Go.Proofs.Ythpcjcdiaifoiaa.G.llW (3 : Int) (0 : Int) (0 : Int) (0 : Int)) (0 : Int) (Go.Proofs.Ythpcjcdiaifoiaa.G.rapA (Go.Proofs.Ythpcjcdiaifoiaa.G.llW (2 : Int) (0 : Int) (0 : Int) (0 : Int)) (0 : Int) (Go.Proofs.Ythpcjcdiaifoiaa.G.rapA (Go.Proofs.Ythpcjcdiaifoiaa.G.llW (1 : Int) (0 : Int) (0 : Int) (0 : Int)) (0 : Int) (Go.Proofs.Ythpcjcdiaifoiaa.G.newM (64 : Nat)) (Go.Proofs.Ythpcjcdiaifoiaa.G.r_kind_0 x0 (8 : Int)) (0 : Int)).fst (Go.Proofs.Ythpcjcdiaifoiaa.G.r_kind_0 x0 (8 : Int)) (0 : Int)).fst (Go.Proofs.Ythpcjcdiaifoiaa.G.r_kind_0 x0 (8 : Int)) (0 : Int)).fst))
 (.br 38 ((Go.Proofs.Ythpcjcdiaifoiaa.G.rapA (Go.Proofs.Ythpcjcdiaifoiaa.G.llW (4 : Int) (0 : Int) (0 : Int) (0 : Int)) (0 : Int) (Go.Proofs.Ythpcjcdiaifoiaa.G.rapA (Go.Proofs.Ythpcjcdiaifoiaa.G.llW (3 : Int) (0 : Int) (0 : Int) (0 : Int)) (0 : Int) (Go.Proofs.Ythpcjcdiaifoiaa.G.rapA (Go.Proofs.Ythpcjcdiaifoiaa.G.llW (2 : Int) (0 : Int) (0 : Int) (0 : Int)) (0 : Int) (Go.Proofs.Ythpcjcdiaifoiaa.G.rapA (Go.Proofs.Ythpcjcdiaifoiaa.G.llW (1 : Int) (0 : Int) (0 : Int) (0 : Int)) (0 : Int) (Go.Proofs.Ythpcjcdiaifoiaa.G.newM (64 : Nat)) (Go.Proofs.Ythpcjcdiaifoiaa.G.r_kind_0 x0 (8 : Int)) (0 : Int)).fst (Go.Proofs.Ythpcjcdiaifoiaa.G.r_kind_0 x0 (8 : Int)) (0 : Int)).fst (Go.Proofs.Ythpcjcdiaifoiaa.G.r_kind_0 x0 (8 : Int)) (0 : Int)).fst (Go.Proofs.Ythpcjcdiaifoiaa.G.r_kind_0 x0 (8 : Int)) (0 : Int)).snd != (0 : Int))
 (.ok [(.b (Bool.false))])
 (.br 0 (Go.Proofs.Ythpcjcdiaifoiaa.G.pdec (Go.Proofs.Ythpcjcdiaifoiaa.G.Mem.Ok (880000 : Int) (Go.Proofs.Ythpcjcdiaifoiaa.G.rapA (Go.Proofs.Ythpcjcdiaifoiaa.G.llW (4 : Int) (0 : Int) (0 : Int) (0 : Int)) (0 : Int) (Go.Proofs.Ythpcjcdiaifoiaa.G.rapA (Go.Proofs.Ythpcjcdiaifoiaa.G.llW (3 : Int) (0 : Int) (0 : Int) (0 : Int)) (0 : Int) (Go.Proofs.Ythpcjcdiaifoiaa.G.rapA (Go.Proofs.Ythpcjcdiaifoiaa.G.llW (2 : Int) (0 : Int) (0 : Int) (0 : Int)) (0 : Int) (Go.Proofs.Ythpcjcdiaifoiaa.G.rapA (Go.Proofs.Ythpcjcdiaifoiaa.G.llW (1 : Int) (0 : Int) (0 : Int) (0 : Int)) (0 : Int) (Go.Proofs.Ythpcjcdiaifoiaa.G.newM (64 : Nat)) (Go.Proofs.Ythpcjcdiaifoiaa.G.r_kind_0 x0 (8 : Int)) (0 : Int)).fst (Go.Proofs.Ythpcjcdiaifoiaa.G.r_kind_0 x0 (8 : Int)) (0 : Int)).fst (Go.Proofs.Ythpcjcdiaifoiaa.G.r_kind_0 x0 (8 : Int)) (0 : Int)).fst (Go.Proofs.Ythpcjcdiaifoiaa.G.r_kind_0 x0 (8 : Int)) (0 : Int)).fst))
 (.br 0 (Go.Proofs.Ythpcjcdiaifoiaa.G.pdec (List.length (Go.Proofs.Ythpcjcdiaifoiaa.G.scR (Go.Proofs.Ythpcjcdiaifoiaa.G.rapA (Go.Proofs.Ythpcjcdiaifoiaa.G.llW (9 : Int) (0 : Int) (0 : Int) (0 : Int)) (0 : Int) (Go.Proofs.Ythpcjcdiaifoiaa.G.rapA (Go.Proofs.Ythpcjcdiaifoiaa.G.llW (4 : Int) (0 : Int) (0 : Int) (0 : Int)) (0 : Int) (Go.Proofs.Ythpcjcdiaifoiaa.G.rapA (Go.Proofs.Ythpcjcdiaifoiaa.G.llW (3 : Int) (0 : Int) (0 : Int) (0 : Int)) (0 : Int) (Go.Proofs.Ythpcjcdiaifoiaa.G.rapA (Go.Proofs.Ythpcjcdiaifoiaa.G.llW (2 : Int) (0 : Int) (0 : Int) (0 : Int)) (0 : Int) (Go.Proofs.Ythpcjcdiaifoiaa.G.rapA (Go.Proofs.Ythpcjcdiaifoiaa.G.llW (1 : Int) (0 : Int) (0 : Int) (0 : Int)) (0 : Int) (Go.Proofs.Ythpcjcdiaifoiaa.G.newM (64 : Nat)) (Go.Proofs.Ythpcjcdiaifoiaa.G.r_kind_0 x0 (8 : Int)) (0 : Int)).fst (Go.Proofs.Ythpcjcdiaifoiaa.G.r_kind_0 x0 (8 : Int)) (0 : Int)).fst (Go.Proofs.Ythpcjcdiaifoiaa.G.r_kind_0 x0 (8 : Int)) (0 : Int)).fst (Go.Proofs.Ythpcjcdiaifoiaa.G.r_kind_0 x0 (8 : Int)) (0 : Int)).fst (Go.Proofs.Ythpcjcdiaifoiaa.G.r_kind_0 x0 (8 : Int)) (Go.Proofs.Ythpcjcdiaifoiaa.G.r_kind_0 x1 (7 : Int))).fst (32 : Nat) (2 : Int)) < (20 : Nat)))
 (.br 50 (Go.Proofs.Ythpcjcdiaifoiaa.G.r_kind_0 x1 (7 : Int) == (0 : Int))
 (.br 53 ((Go.Proofs.Ythpcjcdiaifoiaa.G.rapA (Go.Proofs.Ythpcjcdiaifoiaa.G.llW (9 : Int) (0 : Int) (0 : Int) (0 : Int)) (0 : Int) (Go.Proofs.Ythpcjcdiaifoiaa.G.rapA (Go.Proofs.Ythpcjcdiaifoiaa.G.llW (4 : Int) (0 : Int) (0 : Int) (0 : Int)) (0 : Int) (Go.Proofs.Ythpcjcdiaifoiaa.G.rapA (Go.Proofs.Ythpcjcdiaifoiaa.G.llW (3 : Int) (0 : Int) (0 : Int) (0 : Int)) (0 : Int) (Go.Proofs.Ythpcjcdiaifoiaa.G.rapA (Go.Proofs.Ythpcjcdiaifoiaa.G.llW (2 : Int) (0 : Int) (0 : Int) (0 : Int)) (0 : Int) (Go.Proofs.Ythpcjcdiaifoiaa.G.rapA (Go.Proofs.Ythpcjcdiaifoiaa.G.llW (1 : Int) (0 : Int) (0 : Int) (0 : Int)) (0 : Int) (Go.Proofs.Ythpcjcdiaifoiaa.G.newM (64 : Nat)) (Go.Proofs.Ythpcjcdiaifoiaa.G.r_kind_0 x0 (8 : Int)) (0 : Int)).fst (Go.Proofs.Ythpcjcdiaifoiaa.G.r_kind_0 x0 (8 : Int)) (0 : Int)).fst (Go.Proofs.Ythpcjcdiaifoiaa.G.r_kind_0 x0 (8 : Int)) (0 : Int)).fst (Go.Proofs.Ythpcjcdiaifoiaa.G.r_kind_0 x0 (8 : Int)) (0 : Int)).fst (Go.Proofs.Ythpcjcdiaifoiaa.G.r_kind_0 x0 (8 : Int)) (Go.Proofs.Ythpcjcdiaifoiaa.G.r_kind_0 x1 (7 : Int))).snd == (11 : Int))
 (.br 57 (Go.Proofs.Ythpcjcdiaifoiaa.G.scanC (Go.Proofs.Ythpcjcdiaifoiaa.G.rapA (Go.Proofs.Ythpcjcdiaifoiaa.G.llW (9 : Int) (0 : Int) (0 : Int) (0 : Int)) (0 : Int) (Go.Proofs.Ythpcjcdiaifoiaa.G.rapA (Go.Proofs.Ythpcjcdiaifoiaa.G.llW (4 : Int) (0 : Int) (0 : Int) (0 : Int)) (0 : Int) (Go.Proofs.Ythpcjcdiaifoiaa.G.rapA (Go.Proofs.Ythpcjcdiaifoiaa.G.llW (3 : Int) (0 : Int) (0 : Int) (0 : Int)) (0 : Int) (Go.Proofs.Ythpcjcdiaifoiaa.G.rapA (Go.Proofs.Ythpcjcdiaifoiaa.G.llW (2 : Int) (0 : Int) (0 : Int) (0 : Int)) (0 : Int) (Go.Proofs.Ythpcjcdiaifoiaa.G.rapA (Go.Proofs.Ythpcjcdiaifoiaa.G.llW (1 : Int) (0 : Int) (0 : Int) (0 : Int)) (0 : Int) (Go.Proofs.Ythpcjcdiaifoiaa.G.newM (64 : Nat)) (Go.Proofs.Ythpcjcdiaifoiaa.G.r_kind_0 x0 (8 : Int)) (0 : Int)).fst (Go.Proofs.Ythpcjcdiaifoiaa.G.r_kind_0 x0 (8 : Int)) (0 : Int)).fst (Go.Proofs.Ythpcjcdiaifoiaa.G.r_kind_0 x0 (8 : Int)) (0 : Int)).fst (Go.Proofs.Ythpcjcdiaifoiaa.G.r_kind_0 x0 (8 : Int)) (0 : Int)).fst (Go.Proofs.Ythpcjcdiaifoiaa.G.r_kind_0 x0 (8 : Int)) (Go.Proofs.Ythpcjcdiaifoiaa.G.r_kind_0 x1 (7 : Int))).fst (8 : Int) == (0 : Int))
 (.ok [(.b ((↑(List.length (Go.Proofs.Ythpcjcdiaifoiaa.G.scanL (Go.Proofs.Ythpcjcdiaifoiaa.G.rapA (Go.Proofs.Ythpcjcdiaifoiaa.G.llW (9 : Int) (0 : Int) (0 : Int) (0 : Int)) (0 : Int) (Go.Proofs.Ythpcjcdiaifoiaa.G.rapA (Go.Proofs.Ythpcjcdiaifoiaa.G.llW (4 : Int) (0 : Int) (0 : Int) (0 : Int)) (0 : Int) (Go.Proofs.Ythpcjcdiaifoiaa.G.rapA (Go.Proofs.Ythpcjcdiaifoiaa.G.llW (3 : Int) (0 : Int) (0 : Int) (0 : Int)) (0 : Int) (Go.Proofs.Ythpcjcdiaifoiaa.G.rapA (Go.Proofs.Ythpcjcdiaifoiaa.G.llW (2 : Int) (0 : Int) (0 : Int) (0 : Int)) (0 : Int) (Go.Proofs.Ythpcjcdiaifoiaa.G.rapA (Go.Proofs.Ythpcjcdiaifoiaa.G.llW (1 : Int) (0 : Int) (0 : Int) (0 : Int)) (0 : Int) (Go.Proofs.Ythpcjcdiaifoiaa.G.newM (64 : Nat)) (Go.Proofs.Ythpcjcdiaifoiaa.G.r_kind_0 x0 (8 : Int)) (0 : Int)).fst (Go.Proofs.Ythpcjcdiaifoiaa.G.r_kind_0 x0 (8 : Int)) (0 : Int)).fst (Go.Proofs.Ythpcjcdiaifoiaa.G.r_kind_0 x0 (8 : Int)) (0 : Int)).fst (Go.Proofs.Ythpcjcdiaifoiaa.G.r_kind_0 x0 (8 : Int)) (0 : Int)).fst (Go.Proofs.Ythpcjcdiaifoiaa.G.r_kind_0 x0 (8 : Int)) (Go.Proofs.Ythpcjcdiaifoiaa.G.r_kind_0 x1 (7 : Int))).fst (8 : Int))) : Int) == (4 : Int)))])
 (.ok [(.b (Bool.false))]))
 (.ok [(.b (Bool.false))]))
 (.br 64 ((Go.Proofs.Ythpcjcdiaifoiaa.G.rapA (Go.Proofs.Ythpcjcdiaifoiaa.G.llW (9 : Int) (0 : Int) (0 : Int) (0 : Int)) (0 : Int) (Go.Proofs.Ythpcjcdiaifoiaa.G.rapA (Go.Proofs.Ythpcjcdiaifoiaa.G.llW (4 : Int) (0 : Int) (0 : Int) (0 : Int)) (0 : Int) (Go.Proofs.Ythpcjcdiaifoiaa.G.rapA (Go.Proofs.Ythpcjcdiaifoiaa.G.llW (3 : Int) (0 : Int) (0 : Int) (0 : Int)) (0 : Int) (Go.Proofs.Ythpcjcdiaifoiaa.G.rapA (Go.Proofs.Ythpcjcdiaifoiaa.G.llW (2 : Int) (0 : Int) (0 : Int) (0 : Int)) (0 : Int) (Go.Proofs.Ythpcjcdiaifoiaa.G.rapA (Go.Proofs.Ythpcjcdiaifoiaa.G.llW (1 : Int) (0 : Int) (0 : Int) (0 : Int)) (0 : Int) (Go.Proofs.Ythpcjcdiaifoiaa.G.newM (64 : Nat)) (Go.Proofs.Ythpcjcdiaifoiaa.G.r_kind_0 x0 (8 : Int)) (0 : Int)).fst (Go.Proofs.Ythpcjcdiaifoiaa.G.r_kind_0 x0 (8 : Int)) (0 : Int)).fst (Go.Proofs.Ythpcjcdiaifoiaa.G.r_kind_0 x0 (8 : Int)) (0 : Int)).fst (Go.Proofs.Ythpcjcdiaifoiaa.G.r_kind_0 x0 (8 : Int)) (0 : Int)).fst (Go.Proofs.Ythpcjcdiaifoiaa.G.r_kind_0 x0 (8 : Int)) (Go.Proofs.Ythpcjcdiaifoiaa.G.r_kind_0 x1 (7 : Int))).snd == (0 : Int))
 (.br 68 (Go.Proofs.Ythpcjcdiaifoiaa.G.scanC (Go.Proofs.Ythpcjcdiaifoiaa.G.rapA (Go.Proofs.Ythpcjcdiaifoiaa.G.llW (9 : Int) (0 : Int) (0 : Int) (0 : Int)) (0 : Int) (Go.Proofs.Ythpcjcdiaifoiaa.G.rapA (Go.Proofs.Ythpcjcdiaifoiaa.G.llW (4 : Int) (0 : Int) (0 : Int) (0 : Int)) (0 : Int) (Go.Proofs.Ythpcjcdiaifoiaa.G.rapA (Go.Proofs.Ythpcjcdiaifoiaa.G.llW (3 : Int) (0 : Int) (0 : Int) (0 : Int)) (0 : Int) (Go.Proofs.Ythpcjcdiaifoiaa.G.rapA (Go.Proofs.Ythpcjcdiaifoiaa.G.llW (2 : Int) (0 : Int) (0 : Int) (0 : Int)) (0 : Int) (Go.Proofs.Ythpcjcdiaifoiaa.G.rapA (Go.Proofs.Ythpcjcdiaifoiaa.G.llW (1 : Int) (0 : Int) (0 : Int) (0 : Int)) (0 : Int) (Go.Proofs.Ythpcjcdiaifoiaa.G.newM (64 : Nat)) (Go.Proofs.Ythpcjcdiaifoiaa.G.r_kind_0 x0 (8 : Int)) (0 : Int)).fst (Go.Proofs.Ythpcjcdiaifoiaa.G.r_kind_0 x0 (8 : Int)) (0 : Int)).fst (Go.Proofs.Ythpcjcdiaifoiaa.G.r_kind_0 x0 (8 : Int)) (0 : Int)).fst (Go.Proofs.Ythpcjcdiaifoiaa.G.r_kind_0 x0 (8 : Int)) (0 : Int)).fst (Go.Proofs.Ythpcjcdiaifoiaa.G.r_kind_0 x0 (8 : Int)) (Go.Proofs.Ythpcjcdiaifoiaa.G.r_kind_0 x1 (7 : Int))).fst (8 : Int) == (0 : Int))
 (.br 73 ((↑(List.length (Go.Proofs.Ythpcjcdiaifoiaa.G.scanL (Go.Proofs.Ythpcjcdiaifoiaa.G.rapA (Go.Proofs.Ythpcjcdiaifoiaa.G.llW (9 : Int) (0 : Int) (0 : Int) (0 : Int)) (0 : Int) (Go.Proofs.Ythpcjcdiaifoiaa.G.rapA (Go.Proofs.Ythpcjcdiaifoiaa.G.llW (4 : Int) (0 : Int) (0 : Int) (0 : Int)) (0 : Int) (Go.Proofs.Ythpcjcdiaifoiaa.G.rapA (Go.Proofs.Ythpcjcdiaifoiaa.G.llW (3 : Int) (0 : Int) (0 : Int) (0 : Int)) (0 : Int) (Go.Proofs.Ythpcjcdiaifoiaa.G.rapA (Go.Proofs.Ythpcjcdiaifoiaa.G.llW (2 : Int) (0 : Int) (0 : Int) (0 : Int)) (0 : Int) (Go.Proofs.Ythpcjcdiaifoiaa.G.rapA (Go.Proofs.Ythpcjcdiaifoiaa.G.llW (1 : Int) (0 : Int) (0 : Int) (0 : Int)) (0 : Int) (Go.Proofs.Ythpcjcdiaifoiaa.G.newM (64 : Nat)) (Go.Proofs.Ythpcjcdiaifoiaa.G.r_kind_0 x0 (8 : Int)) (0 : Int)).fst (Go.Proofs.Ythpcjcdiaifoiaa.G.r_kind_0 x0 (8 : Int)) (0 : Int)).fst (Go.Proofs.Ythpcjcdiaifoiaa.G.r_kind_0 x0 (8 : Int)) (0 : Int)).fst (Go.Proofs.Ythpcjcdiaifoiaa.G.r_kind_0 x0 (8 : Int)) (0 : Int)).fst (Go.Proofs.Ythpcjcdiaifoiaa.G.r_kind_0 x0 (8 : Int)) (Go.Proofs.Ythpcjcdiaifoiaa.G.r_kind_0 x1 (7 : Int))).fst (8 : Int))) : Int) == (4 : Int))
 (.br 75 (Go.AM.within (0 : Int) (List.length (Go.Proofs.Ythpcjcdiaifoiaa.G.scanL (Go.Proofs.Ythpcjcdiaifoiaa.G.rapA (Go.Proofs.Ythpcjcdiaifoiaa.G.llW (9 : Int) (0 : Int) (0 : Int) (0 : Int)) (0 : Int) (Go.Proofs.Ythpcjcdiaifoiaa.G.rapA (Go.Proofs.Ythpcjcdiaifoiaa.G.llW (4 : Int) (0 : Int) (0 : Int) (0 : Int)) (0 : Int) (Go.Proofs.Ythpcjcdiaifoiaa.G.rapA (Go.Proofs.Ythpcjcdiaifoiaa.G.llW (3 : Int) (0 : Int) (0 : Int) (0 : Int)) (0 : Int) (Go.Proofs.Ythpcjcdiaifoiaa.G.rapA (Go.Proofs.Ythpcjcdiaifoiaa.G.llW (2 : Int) (0 : Int) (0 : Int) (0 : Int)) (0 : Int) (Go.Proofs.Ythpcjcdiaifoiaa.G.rapA (Go.Proofs.Ythpcjcdiaifoiaa.G.llW (1 : Int) (0 : Int) (0 : Int) (0 : Int)) (0 : Int) (Go.Proofs.Ythpcjcdiaifoiaa.G.newM (64 : Nat)) (Go.Proofs.Ythpcjcdiaifoiaa.G.r_kind_0 x0 (8 : Int)) (0 : Int)).fst (Go.Proofs.Ythpcjcdiaifoiaa.G.r_kind_0 x0 (8 : Int)) (0 : Int)).fst (Go.Proofs.Ythpcjcdiaifoiaa.G.r_kind_0 x0 (8 : Int)) (0 : Int)).fst (Go.Proofs.Ythpcjcdiaifoiaa.G.r_kind_0 x0 (8 : Int)) (0 : Int)).fst (Go.Proofs.Ythpcjcdiaifoiaa.G.r_kind_0 x0 (8 : Int)) (Go.Proofs.Ythpcjcdiaifoiaa.G.r_kind_0 x1 (7 : Int))).fst (8 : Int))))
 (.br 80 (Go.Proofs.Ythpcjcdiaifoiaa.G.lsF (Go.Proofs.Ythpcjcdiaifoiaa.G.scanL (Go.Proofs.Ythpcjcdiaifoiaa.G.rapA (Go.Proofs.Ythpcjcdiaifoiaa.G.llW (9 : Int) (0 : Int) (0 : Int) (0 : Int)) (0 : Int) (Go.Proofs.Ythpcjcdiaifoiaa.G.rapA (Go.Proofs.Ythpcjcdiaifoiaa.G.llW (4 : Int) (0 : Int) (0 : Int) (0 : Int)) (0 : Int) (Go.Proofs.Ythpcjcdiaifoiaa.G.rapA (Go.Proofs.Ythpcjcdiaifoiaa.G.llW (3 : Int) (0 : Int) (0 : Int) (0 : Int)) (0 : Int) (Go.Proofs.Ythpcjcdiaifoiaa.G.rapA (Go.Proofs.Ythpcjcdiaifoiaa.G.llW (2 : Int) (0 : Int) (0 : Int) (0 : Int)) (0 : Int) (Go.Proofs.Ythpcjcdiaifoiaa.G.rapA (Go.Proofs.Ythpcjcdiaifoiaa.G.llW (1 : Int) (0 : Int) (0 : Int) (0 : Int)) (0 : Int) (Go.Proofs.Ythpcjcdiaifoiaa.G.newM (64 : Nat)) (Go.Proofs.Ythpcjcdiaifoiaa.G.r_kind_0 x0 (8 : Int)) (0 : Int)).fst (Go.Proofs.Ythpcjcdiaifoiaa.G.r_kind_0 x0 (8 : Int)) (0 : Int)).fst (Go.Proofs.Ythpcjcdiaifoiaa.G.r_kind_0 x0 (8 : Int)) (0 : Int)).fst (Go.Proofs.Ythpcjcdiaifoiaa.G.r_kind_0 x0 (8 : Int)) (0 : Int)).fst (Go.Proofs.Ythpcjcdiaifoiaa.G.r_kind_0 x0 (8 : Int)) (Go.Proofs.Ythpcjcdiaifoiaa.G.r_kind_0 x1 (7 : Int))).fst (8 : Int)) (0 : Nat) (0 : Nat) == (2 : Int))
 (.br 82 (Go.AM.within (3 : Int) (List.length (Go.Proofs.Ythpcjcdiaifoiaa.G.scanL (Go.Proofs.Ythpcjcdiaifoiaa.G.rapA (Go.Proofs.Ythpcjcdiaifoiaa.G.llW (9 : Int) (0 : Int) (0 : Int) (0 : Int)) (0 : Int) (Go.Proofs.Ythpcjcdiaifoiaa.G.rapA (Go.Proofs.Ythpcjcdiaifoiaa.G.llW (4 : Int) (0 : Int) (0 : Int) (0 : Int)) (0 : Int) (Go.Proofs.Ythpcjcdiaifoiaa.G.rapA (Go.Proofs.Ythpcjcdiaifoiaa.G.llW (3 : Int) (0 : Int) (0 : Int) (0 : Int)) (0 : Int) (Go.Proofs.Ythpcjcdiaifoiaa.G.rapA (Go.Proofs.Ythpcjcdiaifoiaa.G.llW (2 : Int) (0 : Int) (0 : Int) (0 : Int)) (0 : Int) (Go.Proofs.Ythpcjcdiaifoiaa.G.rapA (Go.Proofs.Ythpcjcdiaifoiaa.G.llW (1 : Int) (0 : Int) (0 : Int) (0 : Int)) (0 : Int) (Go.Proofs.Ythpcjcdiaifoiaa.G.newM (64 : Nat)) (Go.Proofs.Ythpcjcdiaifoiaa.G.r_kind_0 x0 (8 : Int)) (0 : Int)).fst (Go.Proofs.Ythpcjcdiaifoiaa.G.r_kind_0 x0 (8 : Int)) (0 : Int)).fst (Go.Proofs.Ythpcjcdiaifoiaa.G.r_kind_0 x0 (8 : Int)) (0 : Int)).fst (Go.Proofs.Ythpcjcdiaifoiaa.G.r_kind_0 x0 (8 : Int)) (0 : Int)).fst (Go.Proofs.Ythpcjcdiaifoiaa.G.r_kind_0 x0 (8 : Int)) (Go.Proofs.Ythpcjcdiaifoiaa.G.r_kind_0 x1 (7 : Int))).fst (8 : Int))))
 (.ok [(.b (Go.Proofs.Ythpcjcdiaifoiaa.G.lsF (Go.Proofs.Ythpcjcdiaifoiaa.G.scanL (Go.Proofs.Ythpcjcdiaifoiaa.G.rapA (Go.Proofs.Ythpcjcdiaifoiaa.G.llW (9 : Int) (0 : Int) (0 : Int) (0 : Int)) (0 : Int) (Go.Proofs.Ythpcjcdiaifoiaa.G.rapA (Go.Proofs.Ythpcjcdiaifoiaa.G.llW (4 : Int) (0 : Int) (0 : Int) (0 : Int)) (0 : Int) (Go.Proofs.Ythpcjcdiaifoiaa.G.rapA (Go.Proofs.Ythpcjcdiaifoiaa.G.llW (3 : Int) (0 : Int) (0 : Int) (0 : Int)) (0 : Int) (Go.Proofs.Ythpcjcdiaifoiaa.G.rapA (Go.Proofs.Ythpcjcdiaifoiaa.G.llW (2 : Int) (0 : Int) (0 : Int) (0 : Int)) (0 : Int) (Go.Proofs.Ythpcjcdiaifoiaa.G.rapA (Go.Proofs.Ythpcjcdiaifoiaa.G.llW (1 : Int) (0 : Int) (0 : Int) (0 : Int)) (0 : Int) (Go.Proofs.Ythpcjcdiaifoiaa.G.newM (64 : Nat)) (Go.Proofs.Ythpcjcdiaifoiaa.G.r_kind_0 x0 (8 : Int)) (0 : Int)).fst (Go.Proofs.Ythpcjcdiaifoiaa.G.r_kind_0 x0 (8 : Int)) (0 : Int)).fst (Go.Proofs.Ythpcjcdiaifoiaa.G.r_kind_0 x0 (8 : Int)) (0 : Int)).fst (Go.Proofs.Ythpcjcdiaifoiaa.G.r_kind_0 x0 (8 : Int)) (0 : Int)).fst (Go.Proofs.Ythpcjcdiaifoiaa.G.r_kind_0 x0 (8 : Int)) (Go.Proofs.Ythpcjcdiaifoiaa.G.r_kind_0 x1 (7 : Int))).fst (8 : Int)) (3 : Nat) (0 : Nat) == (9 : Int)))])
 (.no))
 (.ok [(.b (Bool.false))]))
 (.no))
 (.ok [(.b (Bool.false))]))
 (.ok [(.b (Bool.false))]))
 (.ok [(.b (Bool.false))])))
 (.no))
 (.no)))
 (.no)))
 (.no)))
 (.no)))
 (.no))
 (.no))
 (.no))
noncomputable def y_RlogAgain : Nat → Option Nat := (syOf3 [38, 50, 53, 57, 64, 68, 73, 75, 80, 82] [] [])
noncomputable def TL_RlogAgain (l : List At) : Tr (List At) := T_RlogAgain (aI l 0) (aI l 1)
theorem e_RlogAgain (l : List At) : (call Try.prog Γ_S9 y_RlogAgain noLoops 200 Try.f4 (mkV ish_RlogAgain l) (mkH ish_RlogAgain l)).bind (leafO ish_RlogAgain.hp.length ⟨[.v false [.k .b]], List.replicate ish_RlogAgain.hp.length .no⟩) = TL_RlogAgain l := by kernel_rfl

end Go.Proofs.Ythpcjcdiaifoiaa.G
end

/-
  The plain law of RlogAgain.
-/
section
namespace Go.Proofs.Ythpcjcdiaifoiaa.G
open Go Go.AM Go.Proofs

theorem kind_ok {x n : Int} (hn : 0 < n) : ok_kind x n = true := by
  unfold ok_kind
  have : (n != 0) = true := by rw [bne_iff_ne]; omega
  rw [this]
  cases decide (x < 0) <;> rfl

theorem kind_lo {x n : Int} (h0 : -9223372036854775808 ≤ x) (h1 : x ≤ 9223372036854775807) (hn : 0 < n) : 0 ≤ r_kind_0 x n ∧ r_kind_0 x n < n := by
  unfold r_kind_0
  have hb : (n != 0) = true := by rw [bne_iff_ne]; omega
  rw [hb]
  by_cases hx : x < 0
  · simp only [hx, decide_true, cond_true]
    rw [wrap_i64 (x := x + 1) (by omega) (by omega), wrap_i64 (by omega) (by omega)]
    exact ⟨Int.tmod_nonneg n (by omega), Int.tmod_lt_of_pos _ hn⟩
  · simp only [hx, decide_false, cond_true, cond_false]
    exact ⟨Int.tmod_nonneg n (by omega), Int.tmod_lt_of_pos _ hn⟩

def agS (c : Nat) : Nat → Nat → Option (List Int)
  | 0 => fun _ => none
  | i + 1 => (putL (agS c i) c 0 [(i : Int) + 1, 0, 0, 0]).1
def agL (c k : Nat) : List (List Int) := isort (scS (putL (agS c 4) c k [9, 0, 0, 0]).1 32 2)
theorem ag_ok : ∀ c, c < 8 → (∀ i, i < 4 → (putL (agS c i) c 0 [(i : Int) + 1, 0, 0, 0]).2 = 0) := by decide
theorem ag_len : ∀ c, c < 8 → ∀ k, k < 7 → (agL c k).length = 4 ∧ (scS (putL (agS c 4) c k [9, 0, 0, 0]).1 32 2).length < 20 := by decide
theorem ag_zero : ∀ c, c < 8 → (putL (agS c 4) c 0 [9, 0, 0, 0]).2 = 11 := by decide
theorem ag_more : ∀ c, c < 8 → ∀ k : Nat, k < 7 → 0 < k → (putL (agS c 4) c k [9, 0, 0, 0]).2 = 0 ∧ lsF (agL c k) 0 0 = 2 ∧ lsF (agL c k) 3 0 = 9 := by decide

theorem vc_RlogAgain (x0 x1 : Int) (h0 : IntKind.min .i64 ≤ x0) (k0 : x0 ≤ IntKind.max .i64) (h1 : IntKind.min .i64 ≤ x1) (k1 : x1 ≤ IntKind.max .i64) :
    (T_RlogAgain x0 x1).sat fun r => r = [.b true] := by
  have hc := kind_lo (x := x0) (n := 8) h0 k0 (by decide)
  have hk := kind_lo (x := x1) (n := 7) h1 k1 (by decide)
  unfold T_RlogAgain
  refine brF rfl (brT (kind_ok (by decide)) (brT (kind_ok (by decide)) ?_))
  obtain ⟨c, ec⟩ : ∃ c : Nat, r_kind_0 x0 8 = (c : Int) := ⟨(r_kind_0 x0 8).toNat, by omega⟩
  obtain ⟨k, ek⟩ : ∃ k : Nat, r_kind_0 x1 7 = (k : Int) := ⟨(r_kind_0 x1 7).toNat, by omega⟩
  rw [ec, ek]
  rw [ec] at hc
  rw [ek] at hk
  have hc8 : c < 8 := by omega
  have hk7 : k < 7 := by omega
  have i0 : LogInv (agS c 0) 0 (newM 64) := log_new
  have o0 := newM_on 64
  have app : ∀ (i : Nat) (x : Int) (M : Mem) (K : Int), i < 4 → (i : Int) + 1 = x → LogInv (agS c i) K M → M.on → K ≤ 800000 → rb x 0 0 = true → (rapA (llW x 0 0 0) 0 M (c : Int) 0).2 = 0 ∧ (rapA (llW x 0 0 0) 0 M (c : Int) 0).1.on ∧ LogInv (agS c (i + 1)) (K + 11) (rapA (llW x 0 0 0) 0 M (c : Int) 0).1 := by
    intro i x M K hi hx hM hon hK hr
    have := app_law (s := 0) (x3 := 0) hM hon hK hc8 hr
    rw [← hx] at this ⊢
    rw [ag_ok c hc8 i hi] at this
    exact this
  refine brT (pdec_yes (i0.ok.mono (by decide))) ?_
  obtain ⟨a1, o1, i1⟩ := app 0 1 _ _ (by decide) rfl i0 o0 (by decide) (by decide)
  generalize hM1 : (rapA (llW 1 0 0 0) 0 (newM 64) (c : Int) 0) = M1 at *
  refine brF (by rw [a1]; rfl) (brT (pdec_yes (i1.ok.mono (by decide))) ?_)
  obtain ⟨a2, o2, i2⟩ := app 1 2 _ _ (by decide) rfl i1 o1 (by decide) (by decide)
  generalize hM2 : (rapA (llW 2 0 0 0) 0 M1.1 (c : Int) 0) = M2 at *
  refine brF (by rw [a2]; rfl) (brT (pdec_yes (i2.ok.mono (by decide))) ?_)
  obtain ⟨a3, o3, i3⟩ := app 2 3 _ _ (by decide) rfl i2 o2 (by decide) (by decide)
  generalize hM3 : (rapA (llW 3 0 0 0) 0 M2.1 (c : Int) 0) = M3 at *
  refine brF (by rw [a3]; rfl) (brT (pdec_yes (i3.ok.mono (by decide))) ?_)
  obtain ⟨a4, o4, i4⟩ := app 3 4 _ _ (by decide) rfl i3 o3 (by decide) (by decide)
  generalize hM4 : (rapA (llW 4 0 0 0) 0 M3.1 (c : Int) 0) = M4 at *
  refine brF (by rw [a4]; rfl) (brT (pdec_yes (i4.ok.mono (by decide))) ?_)
  obtain ⟨a5, o5, i5⟩ := app_law (s := (k : Int)) i4 o4 (by decide) hc8 (x0 := 9) (x1 := 0) (x2 := 0) (x3 := 0) (by decide)
  generalize hM5 : (rapA (llW 9 0 0 0) 0 M4.1 (c : Int) (k : Int)) = M5 at *
  obtain ⟨s1, s2, s3⟩ := scan_at i5 o5.1 (k := 8) (by decide) (by decide)
  have s1 : scanC M5.1 8 = 0 := s1
  have s2 : scanL M5.1 8 = agL c k := s2
  have s3 : scR M5.1 32 2 = scS (putL (agS c 4) c k [9, 0, 0, 0]).1 32 2 := s3
  have hl := ag_len c hc8 k hk7
  refine brT (pdec_yes ?_) ?_
  · first
    | exact Nat.lt_of_eq_of_lt (congrArg _ s3) hl.2
    | (rw [s3]; exact hl.2)
  rw [s1, s2, a5]
  by_cases hz : k = 0
  · subst hz
    refine brT rfl (brT ?_ (brT rfl (Tr.sat_ok.2 ?_)))
    · show ((putL (agS c 4) c 0 [9, 0, 0, 0]).2 == 11) = true
      rw [ag_zero c hc8]; rfl
    · rw [hl.1]; rfl
  · obtain ⟨m1, m2, m3⟩ := ag_more c hc8 k hk7 (by omega)
    refine brF (by rw [beq_eq_false_iff_ne]; omega) (brT ?_ (brT rfl (brT ?_ (brT ?_ (brT ?_ (brT ?_ (Tr.sat_ok.2 ?_)))))))
    · rw [m1]; rfl
    · rw [hl.1]; rfl
    · rw [hl.1]; rfl
    · exact (by rw [m2]; rfl)
    · rw [hl.1]; rfl
    · exact congrArg (fun x => [At.b x]) (by rw [m3]; rfl)
end Go.Proofs.Ythpcjcdiaifoiaa.G
end

/-
  The plain law of RlogLasts.
-/
section
namespace Go.Proofs.Ythpcjcdiaifoiaa.G
open Go Go.AM Go.Proofs

/-! ### a line of which some first words are there -/

theorem none_zero {r : Nat → Int} (h1 : r 1 = 0) : LineIs r none := by
  show lrB r = false
  cases hb : lrB r with
  | false => rfl
  | true =>
    have := (lread_of hb).1
    rw [h1] at this
    simp only [rb, decide_eq_true_eq] at this
    have e : IntKind.wrap IntKind.i64 0 = 0 := rfl
    omega

theorem none_of {r : Nat → Int} {a b c d : Int} (h1 : r 1 = a) (h2 : r 2 = b) (h3 : r 3 = c) (h4 : r 4 = d) (h7 : r 7 = 0) (ha : 0 ≤ a ∧ a ≤ 100) (hb : 0 ≤ b ∧ b ≤ 100) (hc : 0 ≤ c ∧ c ≤ 100) (hd : 0 ≤ d) (hs : sealS a b c d ≠ 0) : LineIs r none := by
  show lrB r = false
  cases hl : lrB r with
  | false => rfl
  | true =>
    obtain ⟨hr, _, _, _, _, _, _, _, e7⟩ := lread_of hl
    rw [h1, h2, h3, wrap_i64 (x := a) (by omega) (by omega), wrap_i64 (x := b) (by omega) (by omega), wrap_i64 (x := c) (by omega) (by omega)] at hr e7
    rw [h4, h7, s7 _ _ _ _ hd, hr, cond_true] at e7
    exact absurd (Int.ofNat.inj e7) hs

noncomputable def laW (d : Nat) : Nat → Int := llW ((d + 1 : Nat) : Int) ((d + 1 : Nat) : Int) (((d + 1) % 8 : Nat) : Int) ((d + 1 : Nat) : Int)
theorem la_rb {d : Nat} (hd : d < 12) : rb ((d + 1 : Nat) : Int) ((d + 1 : Nat) : Int) (((d + 1) % 8 : Nat) : Int) = true := by
  unfold rb
  exact decide_eq_true ⟨by omega, by omega, by omega, by omega, by omega, by omega⟩
theorem la_seal {d : Nat} (hd : d < 12) : sealB (d + 1) = true := by
  have := List.all_eq_true.1 seal_all d (List.mem_range.2 hd)
  exact this

theorem part_none {d t : Nat} {r : Nat → Int} (hd : d < 12) (ht : t ≤ 7) (h : ∀ c, c < 8 → r c = if c < t then laW d c else 0) : LineIs r none := by
  have hr := la_rb hd
  have w1 : laW d 1 = ((d + 1 : Nat) : Int) := by
    show r_lLine_1 ((d + 1 : Nat) : Int) ((d + 1 : Nat) : Int) (((d + 1) % 8 : Nat) : Int) ((d + 1 : Nat) : Int) = _
    rw [s1, hr, cond_true]; exact wrap_u64 (by omega) (by omega)
  have w2 : laW d 2 = ((d + 1 : Nat) : Int) := by
    show r_lLine_2 ((d + 1 : Nat) : Int) ((d + 1 : Nat) : Int) (((d + 1) % 8 : Nat) : Int) ((d + 1 : Nat) : Int) = _
    rw [s2, hr, cond_true]; exact wrap_u64 (by omega) (by omega)
  have w3 : laW d 3 = (((d + 1) % 8 : Nat) : Int) := by
    show r_lLine_3 ((d + 1 : Nat) : Int) ((d + 1 : Nat) : Int) (((d + 1) % 8 : Nat) : Int) ((d + 1 : Nat) : Int) = _
    rw [s3, hr, cond_true]; exact wrap_u64 (by omega) (by omega)
  have w4 : laW d 4 = ((d + 1 : Nat) : Int) := by
    show r_lLine_4 ((d + 1 : Nat) : Int) ((d + 1 : Nat) : Int) (((d + 1) % 8 : Nat) : Int) ((d + 1 : Nat) : Int) = _
    rw [s4, hr, cond_true]
  have hs := la_seal hd
  simp only [sealB, Bool.and_eq_true, Bool.not_eq_true', ← Bool.not_eq_true] at hs
  obtain ⟨n1, n2, n3, n4⟩ := hs
  have h1 := h 1 (by decide)
  have h2 := h 2 (by decide)
  have h3 := h 3 (by decide)
  have h4 := h 4 (by decide)
  have h7 : r 7 = 0 := by rw [h 7 (by decide), if_neg (by omega)]
  rw [w1] at h1
  rw [w2] at h2
  rw [w3] at h3
  rw [w4] at h4
  rcases (show t ≤ 1 ∨ t = 2 ∨ t = 3 ∨ t = 4 ∨ 5 ≤ t by omega) with ht | ht | ht | ht | ht
  · rw [if_neg (by omega)] at h1
    exact none_zero h1
  · rw [if_pos (by omega)] at h1
    rw [if_neg (by omega)] at h2 h3 h4
    exact none_of h1 h2 h3 h4 h7 (by omega) (by omega) (by omega) (by omega) (fun h0 => n1 (by rw [h0]; rfl))
  · rw [if_pos (by omega)] at h1 h2
    rw [if_neg (by omega)] at h3 h4
    exact none_of h1 h2 h3 h4 h7 (by omega) (by omega) (by omega) (by omega) (fun h0 => n2 (by rw [h0]; rfl))
  · rw [if_pos (by omega)] at h1 h2 h3
    rw [if_neg (by omega)] at h4
    exact none_of h1 h2 h3 h4 h7 (by omega) (by omega) (by omega) (by omega) (fun h0 => n3 (by rw [h0]; rfl))
  · rw [if_pos (by omega)] at h1 h2 h3 h4
    exact none_of h1 h2 h3 h4 h7 (by omega) (by omega) (by omega) (by omega) (fun h0 => n4 (by rw [h0]; rfl))

/-! ### what the log holds when 'd' records are there -/

def laR (i : Nat) : List Int := [((i : Nat) : Int), ((i : Nat) : Int), ((i % 8 : Nat) : Int), ((i : Nat) : Int)]
def laN (i : Nat) : Nat := 3 * ((i - 2) % 4) + (if (i - 2) / 4 = 0 then 3 else (i - 2) / 4)
def laS (d : Nat) : Nat → Option (List Int) := fun i => if 2 ≤ i ∧ i < 14 ∧ laN i ≤ d then some (laR (laN i)) else none
def laP (d : Nat) : Nat := 2 + 4 * ((d + 1) % 3) + d / 3
theorem la_free : ∀ d, d < 12 → freeS (laS d) 0 4 (2 + 4 * ((d + 1) % 3)) = some (laP d) := by decide
theorem la_at : ∀ d, d < 12 → laS d (laP d) = none ∧ laP d < 64 := by decide
theorem la_put {d i : Nat} (hd : d < 12) (hi : i < 64) : laS (d + 1) i = if i = laP d then some (laR (d + 1)) else laS d i := by
  have : ∀ d, d < 12 → ∀ i, i < 14 → laS (d + 1) i = if i = laP d then some (laR (d + 1)) else laS d i := by decide
  by_cases h : i < 14
  · exact this d hd i h
  · have hp : laP d < 14 := by unfold laP; omega
    rw [if_neg (by omega)]
    unfold laS
    rw [if_neg (by omega), if_neg (by omega)]
theorem la_scan : ∀ d, d < 13 → isort (scS (laS d) 12 2) = (List.range d).map (fun j => laR (j + 1)) ∧ (scS (laS d) 12 2).length = d := by decide
theorem la_rows {d : Nat} (hd : d < 13) : LaRows d (lsF ((List.range d).map (fun j => laR (j + 1)))) := by
  have : ∀ d, d < 13 → ∀ j, j < d → lsF ((List.range d).map (fun j => laR (j + 1))) j 0 = (j : Int) + 1 ∧ lsF ((List.range d).map (fun j => laR (j + 1))) j 1 = (j : Int) + 1 ∧ lsF ((List.range d).map (fun j => laR (j + 1))) j 2 = Int.tmod ((j : Int) + 1) 8 ∧ lsF ((List.range d).map (fun j => laR (j + 1))) j 3 = (j : Int) + 1 := by decide
  exact this d hd

structure LaInv (d : Nat) (M : Mem) : Prop where
  log : LogInv (laS d) (11 * (d + 1)) M
  zer : ∀ j, j < 64 → laS d j = none → ∀ c, c < 8 → M.g j c = 0

theorem la_new (x : Int) (hx : x ≤ 9223372036854775807) : LaInv 0 ((newM 64).fuM x) := by
  have e : ∀ j, laS 0 j = none := by
    intro j
    unfold laS laN
    rw [if_neg]
    intro hh
    split at hh <;> omega
  refine ⟨⟨rfl, (fuM_ok log_new.ok hx).mono (by decide), fun _ _ => rfl, fun _ _ _ _ => rfl, fun j _ => ?_⟩, fun _ _ _ _ _ => rfl⟩
  rw [e]
  exact lineIs_zero

theorem la_args {d : Nat} (hd : d < 12) (m : Mem) : laA ((d + 1 : Nat) : Int) m = rapA (laW d) 0 m (((d + 1) % 3 : Nat) : Int) 0 := by
  have e3 : Int.tmod ((d + 1 : Nat) : Int) 3 = (((d + 1) % 3 : Nat) : Int) := by rw [Int.tmod_eq_emod_of_nonneg (by omega)]; omega
  have e8 : Int.tmod ((d + 1 : Nat) : Int) 8 = (((d + 1) % 8 : Nat) : Int) := by rw [Int.tmod_eq_emod_of_nonneg (by omega)]; omega
  have eu : IntKind.wrap IntKind.u64 ((d + 1 : Nat) : Int) = ((d + 1 : Nat) : Int) := wrap_u64 (by omega) (by omega)
  unfold laA laW
  rw [e3, e8, eu, s8, la_rb hd]
  rfl

theorem la_step {d : Nat} {M : Mem} (hd : d < 12) (h : LaInv d M) :
    ((laA ((d + 1 : Nat) : Int) M).2 ≠ 0 ∧ LaInv d (laA ((d + 1 : Nat) : Int) M).1) ∨ ((laA ((d + 1 : Nat) : Int) M).2 = 0 ∧ LaInv (d + 1) (laA ((d + 1 : Nat) : Int) M).1) ∨
      ((laA ((d + 1 : Nat) : Int) M).2 ≠ 0 ∧ ∃ j, j ≤ 9 ∧ FzInv M (laP d) (laW d) j (11 * (d + 1) + 11) (laA ((d + 1 : Nat) : Int) M).1) := by
  rw [la_args hd]
  have hc : (d + 1) % 3 < 8 := by omega
  cases ho : M.off with
  | true =>
    have hf : faC M (((d + 1) % 3 : Nat) : Int) 0 = 4 := by
      have hl : M.ldC (2 + 4 * (((d + 1) % 3 : Nat) : Int)) = 4 := by
        unfold Mem.ldC
        rw [decide_eq_false (by omega), decide_eq_false (by rw [h.log.n]; omega), ho]
        rfl
      unfold faC coreB
      rw [decide_eq_false (by omega), decide_eq_false (by omega), frL, hl]
      rfl
    unfold rapA
    rw [hf]
    exact .inl ⟨by show (4 : Int) ≠ 0; decide, h⟩
  | false =>
    obtain ⟨f1, f2⟩ := free_some h.log ho hc (la_free d hd)
    obtain ⟨p1, p2⟩ := la_at d hd
    unfold rapA
    rw [f1, f2]
    rcases wrM_any (core := (((d + 1) % 3 : Nat) : Int)) (w := laW d) h.log.n h.log.ok (by omega) (h.log.coh _ p2) p2 ⟨by omega, by omega⟩ h.log.cnt with ⟨w1, w⟩ | ⟨w1, j, hj, w⟩
    · refine .inr (.inl ⟨w1, ⟨⟨w.n, w.ok.mono (by omega), fun i hi => ?_, fun i hi => ?_, fun i hi => ?_⟩, fun i hi hn c hcc => ?_⟩⟩)
      · by_cases hip : i = laP d
        · rw [hip]; exact w.cnt
        · exact (congrFun (w.other i hi hip).1 16).trans (h.log.cnt i hi)
      · by_cases hip : i = laP d
        · rw [hip]; exact w.coh
        · have e := w.other i hi hip
          show Coh ((wrM (laW d) M (((d + 1) % 3 : Nat) : Int) (laP d : Int)).1.g i) ((wrM (laW d) M (((d + 1) % 3 : Nat) : Int) (laP d : Int)).1.h i)
          rw [e.1, e.2]; exact h.log.coh i hi
      · rw [la_put hd hi]
        by_cases hip : i = laP d
        · rw [if_pos hip, hip]
          exact (lineIs_line (la_rb hd)).congr w.now
        · rw [if_neg hip]
          exact (h.log.is i hi).congr fun c _ => congrFun (w.other i hi hip).1 c
      · rw [la_put hd hi] at hn
        by_cases hip : i = laP d
        · rw [if_pos hip] at hn; cases hn
        · rw [if_neg hip] at hn
          exact (congrFun (w.other i hi hip).1 c).trans (h.zer i hi hn c hcc)
    · exact .inr (.inr ⟨w1, j, hj, w⟩)

theorem la_all (many : Nat) (hm : many ≤ 12) : ∀ (k d : Nat) (M : Mem), LaInv d M → d + k = many →
    ∃ d' : Nat, (laL k ((d + 1 : Nat) : Int) (d : Int) M).1 = (d' : Int) ∧ d' ≤ many ∧ (laL k ((d + 1 : Nat) : Int) (d : Int) M).2.Ok 900000 ∧
      (LaInv d' (laL k ((d + 1 : Nat) : Int) (d : Int) M).2 ∨ (d' < many ∧ ∃ M0 j, LaInv d' M0 ∧ j ≤ 9 ∧ FzInv M0 (laP d') (laW d') j (11 * (d' + 1) + 11) (laL k ((d + 1 : Nat) : Int) (d : Int) M).2))
  | 0, d, M, h, hk => ⟨d, rfl, by omega, h.log.ok.mono (by omega), .inl h⟩
  | k + 1, d, M, h, hk => by
    rw [laL]
    rcases la_step (by omega) h with ⟨c, h'⟩ | ⟨c, h'⟩ | ⟨c, j, hj, h'⟩
    · have c' : ((laA ((d + 1 : Nat) : Int) M).2 != 0) = true := by simpa using c
      rw [c']
      exact ⟨d, rfl, by omega, h'.log.ok.mono (by omega), .inl h'⟩
    · have c' : ((laA ((d + 1 : Nat) : Int) M).2 != 0) = false := by simpa using c
      rw [c']
      exact la_all many hm k (d + 1) _ h' (by omega)
    · have c' : ((laA ((d + 1 : Nat) : Int) M).2 != 0) = true := by simpa using c
      rw [c']
      exact ⟨d, rfl, by omega, h'.ok.mono (by omega), .inr ⟨by omega, M, j, h, hj, h'⟩⟩

theorem crM_same {m : Mem} {q : Nat → Int} {kn j : Nat} (h : m.g j 16 = 0) : (m.crM q kn).g j = m.g j := by
  show crG m.n m.g m.h q kn 0 j = _
  unfold crG
  rw [if_neg (fun hh => by omega)]

/-- Behind the crash. -/
theorem la_crash {many d : Nat} {M : Mem} {q : Nat → Int} {kn : Nat} (hm : many ≤ 12) (hd : d ≤ many) (h : LaInv d M ∨ (d < many ∧ ∃ M0 j, LaInv d M0 ∧ j ≤ 9 ∧ FzInv M0 (laP d) (laW d) j (11 * (d + 1) + 11) M)) :
    ∃ e, (e = d ∨ (e = d + 1 ∧ d < many)) ∧ LogInv (laS e) 900000 (M.crM q kn) := by
  rcases h with h | ⟨hd', M0, j, h0, hj, h⟩
  · refine ⟨d, .inl rfl, ⟨h.log.n, (crM_ok h.log.ok).mono (by omega), fun i hi => ?_, fun i hi => ?_, fun i hi => ?_⟩⟩
    · rw [crM_same (h.log.cnt i hi)]; exact h.log.cnt i hi
    · show Coh ((M.crM q kn).g i) (M.h i)
      rw [crM_same (h.log.cnt i hi)]; exact h.log.coh i hi
    · rw [crM_same (h.log.cnt i hi)]; exact h.log.is i hi
  · have hd12 : d < 12 := by omega
    obtain ⟨p1, p2⟩ := la_at d hd12
    obtain ⟨k, hk, hw⟩ := fz_crash (q := q) (kn := kn) h p2
    have cnt : ∀ i, i < 64 → (M.crM q kn).g i 16 = 0 := fun i hi => crM_cnt h.ok (by rw [h.n]; exact hi)
    have coh : ∀ i, i < 64 → Coh ((M.crM q kn).g i) ((M.crM q kn).h i) := fun i hi => crM_coh (fun i hi => by
      by_cases hip : i = laP d
      · rw [hip]; exact h.coh
      · rw [(h.other i hip).1, (h.other i hip).2]; exact h0.log.coh i (by rw [← h.n]; exact hi)) i (by show i < M.n; rw [h.n]; exact hi)
    have oth : ∀ i, i < 64 → i ≠ laP d → LineIs ((M.crM q kn).g i) (laS d i) := fun i hi hip => by
      have e := (h.other i hip).1
      rw [crM_same (by rw [e]; exact h0.log.cnt i hi), e]
      exact h0.log.is i hi
    have sz : ∀ c, c < 8 → sur (M0.g (laP d)) c = 0 := fun c hc => by
      have e := h0.log.coh _ p2 c hc
      rw [h0.log.cnt _ p2] at e
      exact e.symm.trans (h0.zer _ p2 p1 c hc)
    by_cases hk9 : k = 9
    · subst hk9
      refine ⟨d + 1, .inr ⟨rfl, hd'⟩, h.n, (crM_ok h.ok).mono (by omega), cnt, coh, fun i hi => ?_⟩
      rw [la_put hd12 hi]
      by_cases hip : i = laP d
      · rw [if_pos hip, hip]
        refine (lineIs_line (la_rb hd12)).congr fun c hc => ?_
        rw [hw c hc, apF_ST 8 (by decide) c hc, if_pos hc]
        rfl
      · rw [if_neg hip]; exact oth i hi hip
    · refine ⟨d, .inl rfl, h.n, (crM_ok h.ok).mono (by omega), cnt, coh, fun i hi => ?_⟩
      by_cases hip : i = laP d
      · rw [hip, p1]
        refine part_none (t := k - 1) hd12 (by omega) fun c hc => ?_
        rw [hw c hc]
        rcases Nat.eq_zero_or_pos k with hk0 | hk0
        · subst hk0
          rw [if_neg (by omega)]
          exact sz c hc
        · obtain ⟨t, rfl⟩ : ∃ t, k = t + 1 := ⟨k - 1, by omega⟩
          rw [apF_ST t (by omega) c hc, Nat.add_sub_cancel]
          by_cases hct : c < t
          · rw [if_pos hct, if_pos hct]
          · rw [if_neg hct, if_neg hct]
            by_cases h7 : c = 7
            · rw [if_pos h7]
            · rw [if_neg h7]; exact sz c hc
      · exact oth i hi hip

theorem vc_RlogLasts (x0 x1 : Int) (n2 : Nat) (g2 : Nat → Nat → Int) (a0 : IntKind.min .i64 ≤ x0) (b0 : x0 ≤ IntKind.max .i64) (a1 : IntKind.min .i64 ≤ x1) (b1 : x1 ≤ IntKind.max .i64) (_b : n2 ≤ maxLen) (w : ∀ (i c : Nat) (k : SK), i < n2 → [SK.n .i64][c]? = some k → wfS k (g2 i c)) :
    (T_RlogLasts x0 x1 n2 g2).sat fun r => r = [.b true] := by
  have hq : KeepOk (fun j => g2 (0 + j) 0) n2 := fun j hj => w (0 + j) 0 (.n .i64) (by omega) rfl
  have hk0 := kind_lo (x := x0) (n := 13) a0 b0 (by decide)
  have hk1 := kind_lo (x := x1) (n := 130) a1 b1 (by decide)
  obtain ⟨many, em⟩ : ∃ k : Nat, r_kind_0 x0 13 = (k : Int) := ⟨(r_kind_0 x0 13).toNat, by omega⟩
  unfold T_RlogLasts RlogLasts_c62 RlogLasts_c61 RlogLasts_c39 RlogLasts_c1 RlogLasts_c0 RlogLasts_c2
  rw [em] at hk0 ⊢
  have hm : many ≤ 12 := by omega
  have en : ((many : Int) + 1 - 1).toNat = many := by omega
  rw [en]
  have i0 := la_new (r_kind_0 x1 130) (by omega)
  generalize hM0 : (newM 64).fuM (r_kind_0 x1 130) = M0 at *
  obtain ⟨d, e1, hd, hok, hend⟩ := la_all many hm many 0 M0 i0 (by omega)
  have e1 : (laL many 1 0 M0).1 = (d : Int) := e1
  have hok : (laL many 1 0 M0).2.Ok 900000 := hok
  have hend : LaInv d (laL many 1 0 M0).2 ∨ (d < many ∧ ∃ M1 j, LaInv d M1 ∧ j ≤ 9 ∧ FzInv M1 (laP d) (laW d) j (11 * (d + 1) + 11) (laL many 1 0 M0).2) := hend
  obtain ⟨e, he, hlog⟩ := la_crash (q := fun j => g2 (0 + j) 0) (kn := n2) hm hd hend
  rw [e1]
  generalize (laL many 1 0 M0).2 = M1 at *
  have ho : (Mem.crM M1 (fun j => g2 (0 + j) 0) n2).off = false := rfl
  generalize Mem.crM M1 (fun j => g2 (0 + j) 0) n2 = M2 at *
  obtain ⟨q1, q2, q3⟩ := scan_at hlog ho (k := 3) (by decide) (by decide)
  have he12 : e < 13 := by omega
  obtain ⟨l1, l2⟩ := la_scan e he12
  have q1 : scanC M2 3 = 0 := q1
  have q2 : scanL M2 3 = (List.range e).map (fun j => laR (j + 1)) := q2.trans l1
  have q3 : scR M2 12 2 = scS (laS e) 12 2 := q3
  rw [q1, q2, q3, l2, List.length_map, List.length_range]
  have hw : IntKind.wrap IntKind.i64 ((d : Int) + 1) = (d : Int) + 1 := wrap_i64 (by omega) (by omega)
  rw [hw]
  have h11 : (1 : Int) ≤ 1 ∧ (many : Int) ≤ 12 ∧ (1 : Int) ≤ 13 ∧ M0.Ok 11 := ⟨Int.le_refl _, by omega, by decide, i0.log.ok⟩
  refine brF rfl (brT (kind_ok (by decide)) (brT (kind_ok (by decide)) (brT (pdec_yes h11) (brT (pdec_yes hok) (brT (pdec_yes hq) (brT (pdec_yes (by omega)) (brF rfl (brF ?_ (brF ?_ (brT (pdec_yes ⟨Int.le_refl _, by omega, la_rows he12⟩) (Tr.sat_ok.2 rfl)))))))))))
  · exact decide_eq_false (by omega)
  · refine decide_eq_false ?_
    split <;> omega
end Go.Proofs.Ythpcjcdiaifoiaa.G
end
