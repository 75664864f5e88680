/-
  The law RlogSpoilt, whatever its input: it returns true and leaves its arguments as they were.
-/
import Derived.Test.YthpcjcdiaifoiaaV10ToVL7
import Derived.ProofKit
import Derived.KernelRfl
namespace Go.Proofs.Ythpcjcdiaifoiaa.L_RlogSpoilt
open Go.ChangeShapes Go.WideShapes Go.ChangeAt Go.RowKit Go.AM Go.Proofs.Ythpcjcdiaifoiaa.G
theorem own : ownKnob Try.prog.godebug = none := by kernel_rfl
set_option maxHeartbeats 2000000 in
set_option maxRecDepth 100000 in
theorem lifted (os : Os) (started : os.Started) (H : Type) (enc : TypeId × Value → H) :
    ReturnsInHanded {} Try.checked os 8 .any (Rows.rlogSpoiltSpec.pre6 enc Try.prog Try.f8 Rows.rlogSpoiltRow.domain false) (Rows.rlogSpoiltSpec.post enc Try.prog Try.f8 false true false false) := by
  refine law_lifted (C := Try.checked) (tb := 4) own started (by kernel_rfl) Try.func8 (by kernel_rfl) (by kernel_rfl) (by kernel_rfl) (by kernel_rfl) rfl ?_
    (ChangeSpec.witness6 (enc := enc) (C := Try.checked) false ⟨#[], #[.agg #[.int .i64 0, .int .i64 0, .int .i64 0, .int .u64 0], .int .i64 0, .int .i64 0], []⟩ 64 (by kernel_rfl) (by kernel_rfl) (by kernel_rfl) (by kernel_rfl)) ?_
  · intro ds hds
    match ds, hds with
    | [d0, d1, d2], _ => rfl
  · intro W base args ds ps hval0 hA0
    have hval : ∀ (j : Nat) t v, Try.f8.params.toList[j]? = some t → args[j]? = some v → Value.okWide Try.prog W .any base t v := hval0
    have hA : DataW.TrodAll enc Try.prog W 0 (fun _ => true) true Try.f8.params.toList args ds ps := hA0
    clear hval0 hA0
    rw [Try.params8] at hA hval
    obtain ⟨v0, vs0, d0, ds0, p0, q0, rfl, rfl, rfl, h0, t0⟩ := trodAll_cons hA
    obtain ⟨v1, vs1, d1, ds1, p1, q1, rfl, rfl, rfl, h1, t1⟩ := trodAll_cons t0
    obtain ⟨v2, vs2, d2, ds2, p2, q2, rfl, rfl, rfl, h2, t2⟩ := trodAll_cons t1
    obtain ⟨rfl, rfl, rfl⟩ := trodAll_nil t2
    obtain ⟨x0, w0, r0⟩ := open_flatF (n := 64) (ks := [.n .i64, .n .i64, .n .i64, .n .u64]) (b := true) (by kernel_rfl) (by kernel_rfl) (hval 0 24 v0 rfl rfl) h0
    obtain ⟨x1, w1, r1⟩ := open_flatF (n := 64) (ks := [.n .i64]) (b := false) (by kernel_rfl) (by kernel_rfl) (hval 1 3 v1 rfl rfl) h1
    obtain ⟨x2, w2, r2⟩ := open_flatF (n := 64) (ks := [.n .i64]) (b := false) (by kernel_rfl) (by kernel_rfl) (hval 2 3 v2 rfl rfl) h2
    have R0 := rep_ro_nil W.heap
    have M0 : ∀ (id : Nat) C, (([] : AH))[id]? = some (some C) → C.mut = false := fun id C h => by simp at h
    refine (fun (l : List At) (hT : (TL_RlogSpoilt l).sat fun r => r = [.b true]) (hrep : _) (hargs : _) => calls_law (sy := y_RlogSpoilt) (fuel := 100) (Lp := noLoops) o_wordOfBytes mixed Try.func8 ish_RlogSpoilt (by kernel_rfl) (noLoops_ok _) (l := l) (T := TL_RlogSpoilt l) (e_RlogSpoilt l) hT (φ0 := []) hrep hargs) [.i (x0 0), .i (x0 1), .i (x0 2), .i (x0 3), .i (x1 0), .i (x2 0)] ?_ R0
      (all2_cons (r0 _) (all2_cons (r1 _) (all2_cons (r2 _) (all2_nil))))
    have e : TL_RlogSpoilt [.i (x0 0), .i (x0 1), .i (x0 2), .i (x0 3), .i (x1 0), .i (x2 0)] = T_RlogSpoilt (x0 0) (x0 1) (x0 2) (x0 3) (x1 0) (x2 0) := by kernel_rfl
    exact (congrArg (fun t : Tr (List At) => t.sat fun r => r = [.b true]) e).mpr (vc_RlogSpoilt (x0 0) (x0 1) (x0 2) (x0 3) (x1 0) (x2 0) (w0 0 _ rfl).1 (w0 0 _ rfl).2 (w0 1 _ rfl).1 (w0 1 _ rfl).2 (w0 2 _ rfl).1 (w0 2 _ rfl).2 (w0 3 _ rfl).1 (w0 3 _ rfl).2 (w1 0 _ rfl).1 (w1 0 _ rfl).2 (w2 0 _ rfl).1 (w2 0 _ rfl).2)
theorem over : Rows.rlogSpoiltRow.holds Try.pinned (OpenSpec.ofChange Rows.rlogSpoiltSpec) :=
  OpenClaim.holds_of_wide 8 Try.f8 rfl rfl rfl rfl rfl rfl rfl ⟨rfl, rfl, rfl, rfl, rfl⟩ rfl rfl rfl rfl rfl (by kernel_rfl) Try.func8 (by kernel_rfl)
    (of_decide_eq_true (by kernel_rfl)) (by unfold Func.isWrapper; first | (rw [if_pos (by decide +kernel)]; kernel_rfl) | (rw [if_neg (by decide +kernel)]; exact ⟨rfl, rfl⟩))
    (fun os started H enc _ => lifted os started H enc)
end Go.Proofs.Ythpcjcdiaifoiaa.L_RlogSpoilt
namespace Go.Proofs.Ythpcjcdiaifoiaa
/-- The statement. -/
theorem rlogSpoilt_holds : Rows.RlogSpoiltSaid := L_RlogSpoilt.over
#print axioms rlogSpoilt_holds
end Go.Proofs.Ythpcjcdiaifoiaa
