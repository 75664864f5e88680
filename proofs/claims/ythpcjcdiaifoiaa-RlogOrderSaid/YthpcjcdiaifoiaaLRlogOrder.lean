/-
  The law RlogOrder, whatever its input: it returns true and leaves its arguments as they were.
-/
import Derived.Test.YthpcjcdiaifoiaaL11ToVL11
import Derived.ProofKit
import Derived.KernelRfl
namespace Go.Proofs.Ythpcjcdiaifoiaa.L_RlogOrder
open Go.ChangeShapes Go.WideShapes Go.ChangeAt Go.RowKit Go.AM Go.Proofs.Ythpcjcdiaifoiaa.G
theorem own : ownKnob Try.prog.godebug = none := by kernel_rfl
set_option maxHeartbeats 2000000 in
set_option maxRecDepth 100000 in
theorem lifted (os : Os) (started : os.Started) (H : Type) (enc : TypeId × Value → H) :
    ReturnsInHanded {} Try.checked os 5 .any (Rows.rlogOrderSpec.pre6 enc Try.prog Try.f5 Rows.rlogOrderRow.domain false) (Rows.rlogOrderSpec.post enc Try.prog Try.f5 false true false false) := by
  refine law_lifted (C := Try.checked) (tb := 4) own started (by kernel_rfl) Try.func5 (by kernel_rfl) (by kernel_rfl) (by kernel_rfl) (by kernel_rfl) rfl ?_
    (ChangeSpec.witness6 (enc := enc) (C := Try.checked) false ⟨#[], #[.slice none 0 0, .int .i64 0], []⟩ 64 (by kernel_rfl) (by kernel_rfl) (by kernel_rfl) (by kernel_rfl)) ?_
  · intro ds hds
    match ds, hds with
    | [d0, d1], _ => rfl
  · intro W base args ds ps hval0 hA0
    have hval : ∀ (j : Nat) t v, Try.f5.params.toList[j]? = some t → args[j]? = some v → Value.okWide Try.prog W .any base t v := hval0
    have hA : DataW.TrodAll enc Try.prog W 0 (fun _ => true) true Try.f5.params.toList args ds ps := hA0
    clear hval0 hA0
    rw [Try.params5] at hA hval
    obtain ⟨v0, vs0, d0, ds0, p0, q0, rfl, rfl, rfl, h0, t0⟩ := trodAll_cons hA
    obtain ⟨v1, vs1, d1, ds1, p1, q1, rfl, rfl, rfl, h1, t1⟩ := trodAll_cons t0
    obtain ⟨rfl, rfl, rfl⟩ := trodAll_nil t1
    obtain ⟨m0, g0, L0, b0, w0, n0, B0, s0⟩ := open_rows (n := 64) (ks := [.n .i64]) Try.underlying43 (by kernel_rfl) (by kernel_rfl) (by simp) (hval 0 43 v0 rfl rfl) h0
    obtain ⟨x1, w1, r1⟩ := open_flatF (n := 64) (ks := [.n .i64]) (b := false) (by kernel_rfl) (by kernel_rfl) (hval 1 3 v1 rfl rfl) h1
    have R0 := rep_ro_nil W.heap
    have M0 : ∀ (id : Nat) C, (([] : AH))[id]? = some (some C) → C.mut = false := fun id C h => by simp at h
    obtain ⟨R1, M1⟩ := rep_ro_snoc R0 M0 B0 rfl
    refine (fun (l : List At) (hT : (TL_RlogOrder l).sat fun r => r = [.b true]) (hrep : _) (hargs : _) => calls_law (sy := y_RlogOrder) (fuel := 100) (Lp := Lp_RlogOrder_20) o_S9 mixed Try.func5 ish_RlogOrder (by kernel_rfl) lk_RlogOrder_20 (l := l) (T := TL_RlogOrder l) (e_RlogOrder l) hT (φ0 := [L0]) hrep hargs) [.i (x1 0), .r m0 g0] ?_ R1
      (all2_cons ((by have := s0 [L0] 0 rfl; rw [n0] at this; exact this)) (all2_cons (r1 _) (all2_nil)))
    have e : TL_RlogOrder [.i (x1 0), .r m0 g0] = T_RlogOrder (x1 0) m0 g0 := by kernel_rfl
    exact (congrArg (fun t : Tr (List At) => t.sat fun r => r = [.b true]) e).mpr (vc_RlogOrder (x1 0) m0 g0 (w1 0 _ rfl).1 (w1 0 _ rfl).2 b0 w0)
theorem over : Rows.rlogOrderRow.holds Try.pinned (OpenSpec.ofChange Rows.rlogOrderSpec) :=
  OpenClaim.holds_of_wide 5 Try.f5 rfl rfl rfl rfl rfl rfl rfl ⟨rfl, rfl, rfl, rfl, rfl⟩ rfl rfl rfl rfl rfl (by kernel_rfl) Try.func5 (by kernel_rfl)
    (of_decide_eq_true (by kernel_rfl)) (by unfold Func.isWrapper; first | (rw [if_pos (by decide +kernel)]; kernel_rfl) | (rw [if_neg (by decide +kernel)]; exact ⟨rfl, rfl⟩))
    (fun os started H enc _ => lifted os started H enc)
end Go.Proofs.Ythpcjcdiaifoiaa.L_RlogOrder
namespace Go.Proofs.Ythpcjcdiaifoiaa
/-- The statement. -/
theorem rlogOrder_holds : Rows.RlogOrderSaid := L_RlogOrder.over
#print axioms rlogOrder_holds
end Go.Proofs.Ythpcjcdiaifoiaa
