/-
  The law WordFields, whatever its input: it returns true and leaves its arguments as they were.
-/
import Derived.Test.YtgohhgkonbenbaaV3
import Derived.ProofKit
import Derived.KernelRfl
namespace Go.Proofs.Ytgohhgkonbenbaa.L3
open Go.ChangeShapes Go.WideShapes Go.ChangeAt Go.RowKit Go.AM Go.Proofs.Ytgohhgkonbenbaa.G
theorem own : ownKnob Try.prog.godebug = none := by kernel_rfl
set_option maxRecDepth 100000 in
theorem lifted (os : Os) (started : os.Started) (H : Type) (enc : TypeId × Value → H) :
    ReturnsInHanded {} Try.checked os 3 .any (Rows.wordFieldsSpec.pre6 enc Try.prog Try.f3 Rows.wordFieldsRow.domain false) (Rows.wordFieldsSpec.post enc Try.prog Try.f3 false true false false) := by
  refine law_lifted (C := Try.checked) (tb := 4) own started (by kernel_rfl) Try.func3 (by kernel_rfl) (by kernel_rfl) (by kernel_rfl) (by kernel_rfl) rfl ?_
    (ChangeSpec.witness6 (enc := enc) (C := Try.checked) false ⟨#[], #[.int .u64 0, .agg #[.int .i64 0, .int .i64 0], .int .u64 0], []⟩ 64 (by kernel_rfl) (by kernel_rfl) (by kernel_rfl) (by kernel_rfl)) ?_
  · intro ds hds
    match ds, hds with
    | [d0, d1, d2], _ => rfl
  · intro W base args ds ps hval0 hA0
    have hval : ∀ (j : Nat) t v, Try.f3.params.toList[j]? = some t → args[j]? = some v → Value.okWide Try.prog W .any base t v := hval0
    have hA : DataW.TrodAll enc Try.prog W 0 (fun _ => true) true Try.f3.params.toList args ds ps := hA0
    clear hval0 hA0
    rw [Try.params3] at hA hval
    obtain ⟨v0, vs0, d0, ds0, p0, q0, rfl, rfl, rfl, h0, t0⟩ := trodAll_cons hA
    obtain ⟨v1, vs1, d1, ds1, p1, q1, rfl, rfl, rfl, h1, t1⟩ := trodAll_cons t0
    obtain ⟨v2, vs2, d2, ds2, p2, q2, rfl, rfl, rfl, h2, t2⟩ := trodAll_cons t1
    obtain ⟨rfl, rfl, rfl⟩ := trodAll_nil t2
    obtain ⟨x0, w0, r0⟩ := open_flatF (n := 64) (ks := [.n .u64]) (b := false) (by kernel_rfl) (by kernel_rfl) (hval 0 22 v0 rfl rfl) h0
    obtain ⟨x1, w1, r1⟩ := open_flatF (n := 64) (ks := [.n .i64, .n .i64]) (b := true) (by kernel_rfl) (by kernel_rfl) (hval 1 24 v1 rfl rfl) h1
    obtain ⟨x2, w2, r2⟩ := open_flatF (n := 64) (ks := [.n .u64]) (b := false) (by kernel_rfl) (by kernel_rfl) (hval 2 22 v2 rfl rfl) h2
    refine calls_closed (sy := y3) (fuel := 100) (Lp := noLoops) o13 mixed Try.func3 (noLoops_ok _) (tv := tvb true) (v := .bool true) (all2_cons (r0 _) (all2_cons (r1 _) (all2_cons (r2 _) (all2_nil)))) (fun φ u h => h) ?_
    refine cast (congrArg (fun t => Tr.sat t fun r => r = tvb true) (e3 (x0 0) (x1 0) (x1 1) (x2 0)).symm) ?_
    exact vc3 (x0 0) (x1 0) (x1 1) (x2 0) (w0 0 _ rfl).1 (w0 0 _ rfl).2 (w1 0 _ rfl).1 (w1 0 _ rfl).2 (w1 1 _ rfl).1 (w1 1 _ rfl).2 (w2 0 _ rfl).1 (w2 0 _ rfl).2
theorem over : Rows.wordFieldsRow.holds Try.pinned (OpenSpec.ofChange Rows.wordFieldsSpec) :=
  OpenClaim.holds_of_wide 3 Try.f3 rfl rfl rfl rfl rfl rfl rfl ⟨rfl, rfl, rfl, rfl, rfl⟩ rfl rfl rfl rfl rfl (by kernel_rfl) Try.func3 (by kernel_rfl)
    (of_decide_eq_true (by kernel_rfl)) (by unfold Func.isWrapper; first | (rw [if_pos (by decide +kernel)]; kernel_rfl) | (rw [if_neg (by decide +kernel)]; exact ⟨rfl, rfl⟩))
    (fun os started H enc _ => lifted os started H enc)
end Go.Proofs.Ytgohhgkonbenbaa.L3
namespace Go.Proofs.Ytgohhgkonbenbaa
/-- The statement. -/
theorem wordFields_holds : Rows.WordFieldsSaid := L3.over
#print axioms wordFields_holds
end Go.Proofs.Ytgohhgkonbenbaa
