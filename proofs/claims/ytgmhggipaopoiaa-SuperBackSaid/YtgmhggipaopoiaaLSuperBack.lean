/-
  The law SuperBack, whatever its input: it returns true and leaves its arguments as they were.
-/
import Derived.Test.YtgmhggipaopoiaaV5
import Derived.ProofKit
import Derived.KernelRfl
namespace Go.Proofs.Ytgmhggipaopoiaa.L_SuperBack
open Go.ChangeShapes Go.WideShapes Go.ChangeAt Go.RowKit Go.AM Go.Proofs.Ytgmhggipaopoiaa.G
theorem own : ownKnob Try.prog.godebug = none := by kernel_rfl
set_option maxRecDepth 100000 in
theorem lifted (os : Os) (started : os.Started) (H : Type) (enc : TypeId × Value → H) :
    ReturnsInHanded {} Try.checked os 5 .any (Rows.superBackSpec.pre6 enc Try.prog Try.f5 Rows.superBackRow.domain false) (Rows.superBackSpec.post enc Try.prog Try.f5 false true false false) := by
  refine law_lifted (C := Try.checked) (tb := 4) own started (by kernel_rfl) Try.func5 (by kernel_rfl) (by kernel_rfl) (by kernel_rfl) (by kernel_rfl) rfl ?_
    (ChangeSpec.witness6 (enc := enc) (C := Try.checked) false ⟨#[], #[.agg #[.int .i64 0, .int .i64 0, .int .i64 0, .int .i64 0]], []⟩ 64 (by kernel_rfl) (by kernel_rfl) (by kernel_rfl) (by kernel_rfl)) ?_
  · intro ds hds
    match ds, hds with
    | [d0], _ => rfl
  · intro W base args ds ps hval0 hA0
    have hval : ∀ (j : Nat) t v, Try.f5.params.toList[j]? = some t → args[j]? = some v → Value.okWide Try.prog W .any base t v := hval0
    have hA : DataW.TrodAll enc Try.prog W 0 (fun _ => true) true Try.f5.params.toList args ds ps := hA0
    clear hval0 hA0
    rw [Try.params5] at hA hval
    obtain ⟨v0, vs0, d0, ds0, p0, q0, rfl, rfl, rfl, h0, t0⟩ := trodAll_cons hA
    obtain ⟨rfl, rfl, rfl⟩ := trodAll_nil t0
    obtain ⟨x0, w0, r0⟩ := open_flatF (n := 64) (ks := [.n .i64, .n .i64, .n .i64, .n .i64]) (b := true) (by kernel_rfl) (by kernel_rfl) (hval 0 23 v0 rfl rfl) h0
    have R0 := rep_ro_nil W.heap
    have M0 : ∀ (id : Nat) C, (([] : AH))[id]? = some (some C) → C.mut = false := fun id C h => by simp at h
    refine calls_law (sy := y_SuperBack) (fuel := 100) (Lp := noLoops) o_shown mixed Try.func5 ish_SuperBack (by kernel_rfl) (noLoops_ok _) (l := [.i (x0 0), .i (x0 1), .i (x0 2), .i (x0 3)]) (T := TL_SuperBack [.i (x0 0), .i (x0 1), .i (x0 2), .i (x0 3)]) (e_SuperBack _) ?_ (φ0 := []) R0
      (all2_cons (r0 _) (all2_nil))
    exact vc_SuperBack (x0 0) (x0 1) (x0 2) (x0 3) (w0 0 _ rfl).1 (w0 0 _ rfl).2 (w0 1 _ rfl).1 (w0 1 _ rfl).2 (w0 2 _ rfl).1 (w0 2 _ rfl).2 (w0 3 _ rfl).1 (w0 3 _ rfl).2
theorem over : Rows.superBackRow.holds Try.pinned (OpenSpec.ofChange Rows.superBackSpec) :=
  OpenClaim.holds_of_wide 5 Try.f5 rfl rfl rfl rfl rfl rfl rfl ⟨rfl, rfl, rfl, rfl, rfl⟩ rfl rfl rfl rfl rfl (by kernel_rfl) Try.func5 (by kernel_rfl)
    (of_decide_eq_true (by kernel_rfl)) (by unfold Func.isWrapper; first | (rw [if_pos (by decide +kernel)]; kernel_rfl) | (rw [if_neg (by decide +kernel)]; exact ⟨rfl, rfl⟩))
    (fun os started H enc _ => lifted os started H enc)
end Go.Proofs.Ytgmhggipaopoiaa.L_SuperBack
namespace Go.Proofs.Ytgmhggipaopoiaa
/-- The statement. -/
theorem superBack_holds : Rows.SuperBackSaid := L_SuperBack.over
#print axioms superBack_holds
end Go.Proofs.Ytgmhggipaopoiaa
