/-
  The law RadixRoots, whatever its input: it returns true and leaves its arguments as they were.
-/
import Derived.Test.YtobikddlkoibjaaSDToV8
import Derived.ProofKit
import Derived.KernelRfl
namespace Go.Proofs.Ytobikddlkoibjaa.L_RadixRoots
open Go.ChangeShapes Go.WideShapes Go.ChangeAt Go.RowKit Go.AM Go.Proofs.Ytobikddlkoibjaa.G
theorem own : ownKnob Try.prog.godebug = none := by kernel_rfl
set_option maxRecDepth 100000 in
theorem lifted (os : Os) (started : os.Started) (H : Type) (enc : TypeId × Value → H) :
    ReturnsInHanded {} Try.checked os 4 .any (Rows.radixRootsSpec.pre6 enc Try.prog Try.f4 Rows.radixRootsRow.domain false) (Rows.radixRootsSpec.post enc Try.prog Try.f4 false true false false) := by
  refine law_lifted (C := Try.checked) (tb := 4) own started (by kernel_rfl) Try.func4 (by kernel_rfl) (by kernel_rfl) (by kernel_rfl) (by kernel_rfl) rfl ?_
    (ChangeSpec.witness6 (enc := enc) (C := Try.checked) false ⟨#[], #[.agg #[.int .i64 0, .int .i64 0, .int .i64 0, .int .i64 0, .int .i64 0, .int .i64 0, .int .i64 0], .agg #[.int .u64 0, .int .u64 0, .int .u64 0, .int .u64 0, .int .u64 0, .int .u64 0, .int .u64 0, .int .u64 0]], []⟩ 64 (by kernel_rfl) (by kernel_rfl) (by kernel_rfl) (by kernel_rfl)) ?_
  · intro ds hds
    match ds, hds with
    | [d0, d1], _ => rfl
  · intro W base args ds ps hval0 hA0
    have hval : ∀ (j : Nat) t v, Try.f4.params.toList[j]? = some t → args[j]? = some v → Value.okWide Try.prog W .any base t v := hval0
    have hA : DataW.TrodAll enc Try.prog W 0 (fun _ => true) true Try.f4.params.toList args ds ps := hA0
    clear hval0 hA0
    rw [Try.params4] at hA hval
    obtain ⟨v0, vs0, d0, ds0, p0, q0, rfl, rfl, rfl, h0, t0⟩ := trodAll_cons hA
    obtain ⟨v1, vs1, d1, ds1, p1, q1, rfl, rfl, rfl, h1, t1⟩ := trodAll_cons t0
    obtain ⟨rfl, rfl, rfl⟩ := trodAll_nil t1
    obtain ⟨x0, w0, r0⟩ := open_flatF (n := 64) (ks := [.n .i64, .n .i64, .n .i64, .n .i64, .n .i64, .n .i64, .n .i64]) (b := true) (by kernel_rfl) (by kernel_rfl) (hval 0 37 v0 rfl rfl) h0
    obtain ⟨x1, w1, r1⟩ := open_flatF (n := 64) (ks := [.n .u64, .n .u64, .n .u64, .n .u64, .n .u64, .n .u64, .n .u64, .n .u64]) (b := true) (by kernel_rfl) (by kernel_rfl) (hval 1 27 v1 rfl rfl) h1
    have R0 := rep_ro_nil W.heap
    have M0 : ∀ (id : Nat) C, (([] : AH))[id]? = some (some C) → C.mut = false := fun id C h => by simp at h
    refine calls_law (sy := y_RadixRoots) (fuel := 100) (Lp := noLoops) o_shown mixed Try.func4 ish_RadixRoots (by kernel_rfl) (noLoops_ok _) (l := [.i (x0 0), .i (x0 1), .i (x0 2), .i (x0 3), .i (x0 4), .i (x0 5), .i (x0 6), .i (x1 0), .i (x1 1), .i (x1 2), .i (x1 3), .i (x1 4), .i (x1 5), .i (x1 6), .i (x1 7)]) (T := TL_RadixRoots [.i (x0 0), .i (x0 1), .i (x0 2), .i (x0 3), .i (x0 4), .i (x0 5), .i (x0 6), .i (x1 0), .i (x1 1), .i (x1 2), .i (x1 3), .i (x1 4), .i (x1 5), .i (x1 6), .i (x1 7)]) (e_RadixRoots _) ?_ (φ0 := []) R0
      (all2_cons (r0 _) (all2_cons (r1 _) (all2_nil)))
    exact vc_RadixRoots (x0 0) (x0 1) (x0 2) (x0 3) (x0 4) (x0 5) (x0 6) (x1 0) (x1 1) (x1 2) (x1 3) (x1 4) (x1 5) (x1 6) (x1 7) (w0 0 _ rfl).1 (w0 0 _ rfl).2 (w0 1 _ rfl).1 (w0 1 _ rfl).2 (w0 2 _ rfl).1 (w0 2 _ rfl).2 (w0 3 _ rfl).1 (w0 3 _ rfl).2 (w0 4 _ rfl).1 (w0 4 _ rfl).2 (w0 5 _ rfl).1 (w0 5 _ rfl).2 (w0 6 _ rfl).1 (w0 6 _ rfl).2 (w1 0 _ rfl).1 (w1 0 _ rfl).2 (w1 1 _ rfl).1 (w1 1 _ rfl).2 (w1 2 _ rfl).1 (w1 2 _ rfl).2 (w1 3 _ rfl).1 (w1 3 _ rfl).2 (w1 4 _ rfl).1 (w1 4 _ rfl).2 (w1 5 _ rfl).1 (w1 5 _ rfl).2 (w1 6 _ rfl).1 (w1 6 _ rfl).2 (w1 7 _ rfl).1 (w1 7 _ rfl).2
theorem over : Rows.radixRootsRow.holds Try.pinned (OpenSpec.ofChange Rows.radixRootsSpec) :=
  OpenClaim.holds_of_wide 4 Try.f4 rfl rfl rfl rfl rfl rfl rfl ⟨rfl, rfl, rfl, rfl, rfl⟩ rfl rfl rfl rfl rfl (by kernel_rfl) Try.func4 (by kernel_rfl)
    (of_decide_eq_true (by kernel_rfl)) (by unfold Func.isWrapper; first | (rw [if_pos (by decide +kernel)]; kernel_rfl) | (rw [if_neg (by decide +kernel)]; exact ⟨rfl, rfl⟩))
    (fun os started H enc _ => lifted os started H enc)
end Go.Proofs.Ytobikddlkoibjaa.L_RadixRoots
namespace Go.Proofs.Ytobikddlkoibjaa
/-- The statement. -/
theorem radixRoots_holds : Rows.RadixRootsSaid := L_RadixRoots.over
#print axioms radixRoots_holds
end Go.Proofs.Ytobikddlkoibjaa
