/-
  The law RlogBack, whatever its input: it returns true and leaves its arguments as they were.
-/
import Derived.Test.YthpcjcdiaifoiaaL2ToVL2
import Derived.ProofKit
import Derived.KernelRfl
namespace Go.Proofs.Ythpcjcdiaifoiaa.L_RlogBack
open Go.ChangeShapes Go.WideShapes Go.ChangeAt Go.RowKit Go.AM Go.Proofs.Ythpcjcdiaifoiaa.G
theorem own : ownKnob Try.prog.godebug = none := by kernel_rfl
set_option maxHeartbeats 2000000 in
set_option maxRecDepth 100000 in
theorem lifted (os : Os) (started : os.Started) (H : Type) (enc : TypeId × Value → H) :
    ReturnsInHanded {} Try.checked os 7 .any (Rows.rlogBackSpec.pre6 enc Try.prog Try.f7 Rows.rlogBackRow.domain false) (Rows.rlogBackSpec.post enc Try.prog Try.f7 false true false false) := by
  refine law_lifted (C := Try.checked) (tb := 4) own started (by kernel_rfl) Try.func7 (by kernel_rfl) (by kernel_rfl) (by kernel_rfl) (by kernel_rfl) rfl ?_
    (ChangeSpec.witness6 (enc := enc) (C := Try.checked) false ⟨#[], #[.agg #[.int .i64 0, .int .i64 0, .int .i64 0, .int .u64 0]], []⟩ 64 (by kernel_rfl) (by kernel_rfl) (by kernel_rfl) (by kernel_rfl)) ?_
  · intro ds hds
    match ds, hds with
    | [d0], _ => rfl
  · intro W base args ds ps hval0 hA0
    have hval : ∀ (j : Nat) t v, Try.f7.params.toList[j]? = some t → args[j]? = some v → Value.okWide Try.prog W .any base t v := hval0
    have hA : DataW.TrodAll enc Try.prog W 0 (fun _ => true) true Try.f7.params.toList args ds ps := hA0
    clear hval0 hA0
    rw [Try.params7] at hA hval
    obtain ⟨v0, vs0, d0, ds0, p0, q0, rfl, rfl, rfl, h0, t0⟩ := trodAll_cons hA
    obtain ⟨rfl, rfl, rfl⟩ := trodAll_nil t0
    obtain ⟨x0, w0, r0⟩ := open_flatF (n := 64) (ks := [.n .i64, .n .i64, .n .i64, .n .u64]) (b := true) (by kernel_rfl) (by kernel_rfl) (hval 0 24 v0 rfl rfl) h0
    have R0 := rep_ro_nil W.heap
    have M0 : ∀ (id : Nat) C, (([] : AH))[id]? = some (some C) → C.mut = false := fun id C h => by simp at h
    refine (fun (l : List At) (hT : (TL_RlogBack l).sat fun r => r = [.b true]) (hrep : _) (hargs : _) => calls_law (sy := y_RlogBack) (fuel := 100) (Lp := noLoops) o_S9 mixed Try.func7 ish_RlogBack (by kernel_rfl) (noLoops_ok _) (l := l) (T := TL_RlogBack l) (e_RlogBack l) hT (φ0 := []) hrep hargs) [.i (x0 0), .i (x0 1), .i (x0 2), .i (x0 3)] ?_ R0
      (all2_cons (r0 _) (all2_nil))
    have e : TL_RlogBack [.i (x0 0), .i (x0 1), .i (x0 2), .i (x0 3)] = T_RlogBack (x0 0) (x0 1) (x0 2) (x0 3) := by kernel_rfl
    exact (congrArg (fun t : Tr (List At) => t.sat fun r => r = [.b true]) e).mpr (vc_RlogBack (x0 0) (x0 1) (x0 2) (x0 3) (w0 0 _ rfl).1 (w0 0 _ rfl).2 (w0 1 _ rfl).1 (w0 1 _ rfl).2 (w0 2 _ rfl).1 (w0 2 _ rfl).2 (w0 3 _ rfl).1 (w0 3 _ rfl).2)
theorem over : Rows.rlogBackRow.holds Try.pinned (OpenSpec.ofChange Rows.rlogBackSpec) :=
  OpenClaim.holds_of_wide 7 Try.f7 rfl rfl rfl rfl rfl rfl rfl ⟨rfl, rfl, rfl, rfl, rfl⟩ rfl rfl rfl rfl rfl (by kernel_rfl) Try.func7 (by kernel_rfl)
    (of_decide_eq_true (by kernel_rfl)) (by unfold Func.isWrapper; first | (rw [if_pos (by decide +kernel)]; kernel_rfl) | (rw [if_neg (by decide +kernel)]; exact ⟨rfl, rfl⟩))
    (fun os started H enc _ => lifted os started H enc)
end Go.Proofs.Ythpcjcdiaifoiaa.L_RlogBack
namespace Go.Proofs.Ythpcjcdiaifoiaa
/-- The statement. -/
theorem rlogBack_holds : Rows.RlogBackSaid := L_RlogBack.over
#print axioms rlogBack_holds
end Go.Proofs.Ythpcjcdiaifoiaa
