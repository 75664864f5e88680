/-
  The law IpcLines, whatever its input: it returns true and leaves its arguments as they were.
-/
import Derived.Test.YtepdekambalmhaaV9
import Derived.ProofKit
import Derived.KernelRfl
namespace Go.Proofs.Ytepdekambalmhaa.L_IpcLines
open Go.ChangeShapes Go.WideShapes Go.ChangeAt Go.RowKit Go.AM Go.Proofs.Ytepdekambalmhaa.G
theorem own : ownKnob Try.prog.godebug = none := by kernel_rfl
set_option maxRecDepth 100000 in
theorem lifted (os : Os) (started : os.Started) (H : Type) (enc : TypeId × Value → H) :
    ReturnsInHanded {} Try.checked os 3 .any (Rows.ipcLinesSpec.pre6 enc Try.prog Try.f3 Rows.ipcLinesRow.domain false) (Rows.ipcLinesSpec.post enc Try.prog Try.f3 false true false false) := by
  refine law_lifted (C := Try.checked) (tb := 4) own started (by kernel_rfl) Try.func3 (by kernel_rfl) (by kernel_rfl) (by kernel_rfl) (by kernel_rfl) rfl ?_
    (ChangeSpec.witness6 (enc := enc) (C := Try.checked) false ⟨#[], #[.int .i64 0, .slice none 0 0, .agg #[.int .u64 0, .int .u64 0, .int .u64 0, .int .u64 0, .int .u64 0, .int .u64 0, .int .u64 0, .int .u64 0]], []⟩ 64 (by kernel_rfl) (by kernel_rfl) (by kernel_rfl) (by kernel_rfl)) ?_
  · intro ds hds
    match ds, hds with
    | [d0, d1, d2], _ => rfl
  · intro W base args ds ps hval0 hA0
    have hval : ∀ (j : Nat) t v, Try.f3.params.toList[j]? = some t → args[j]? = some v → Value.okWide Try.prog W .any base t v := hval0
    have hA : DataW.TrodAll enc Try.prog W 0 (fun _ => true) true Try.f3.params.toList args ds ps := hA0
    clear hval0 hA0
    rw [Try.params3] at hA hval
    obtain ⟨v0, vs0, d0, ds0, p0, q0, rfl, rfl, rfl, h0, t0⟩ := trodAll_cons hA
    obtain ⟨v1, vs1, d1, ds1, p1, q1, rfl, rfl, rfl, h1, t1⟩ := trodAll_cons t0
    obtain ⟨v2, vs2, d2, ds2, p2, q2, rfl, rfl, rfl, h2, t2⟩ := trodAll_cons t1
    obtain ⟨rfl, rfl, rfl⟩ := trodAll_nil t2
    obtain ⟨x0, w0, r0⟩ := open_flatF (n := 64) (ks := [.n .i64]) (b := false) (by kernel_rfl) (by kernel_rfl) (hval 0 3 v0 rfl rfl) h0
    obtain ⟨m1, g1, L1, b1, w1, n1, B1, s1⟩ := open_rows (n := 64) (ks := [.n .i64]) Try.underlying22 (by kernel_rfl) (by kernel_rfl) (by simp) (hval 1 22 v1 rfl rfl) h1
    obtain ⟨x2, w2, r2⟩ := open_flatF (n := 64) (ks := [.n .u64, .n .u64, .n .u64, .n .u64, .n .u64, .n .u64, .n .u64, .n .u64]) (b := true) (by kernel_rfl) (by kernel_rfl) (hval 2 25 v2 rfl rfl) h2
    have R0 := rep_ro_nil W.heap
    have M0 : ∀ (id : Nat) C, (([] : AH))[id]? = some (some C) → C.mut = false := fun id C h => by simp at h
    obtain ⟨R1, M1⟩ := rep_ro_snoc R0 M0 B1 rfl
    refine calls_law (sy := y_IpcLines) (fuel := 100) (Lp := noLoops) o_shown mixed Try.func3 ish_IpcLines (by kernel_rfl) (noLoops_ok _) (l := [.i (x0 0), .i (x2 0), .i (x2 1), .i (x2 2), .i (x2 3), .i (x2 4), .i (x2 5), .i (x2 6), .i (x2 7), .r m1 g1]) (T := TL_IpcLines [.i (x0 0), .i (x2 0), .i (x2 1), .i (x2 2), .i (x2 3), .i (x2 4), .i (x2 5), .i (x2 6), .i (x2 7), .r m1 g1]) (e_IpcLines _) ?_ (φ0 := [L1]) R1
      (all2_cons (r0 _) (all2_cons ((by have := s1 [L1] 0 rfl; rw [n1] at this; exact this)) (all2_cons (r2 _) (all2_nil))))
    exact vc_IpcLines (x0 0) (x2 0) (x2 1) (x2 2) (x2 3) (x2 4) (x2 5) (x2 6) (x2 7) m1 g1 (w0 0 _ rfl).1 (w0 0 _ rfl).2 (w2 0 _ rfl).1 (w2 0 _ rfl).2 (w2 1 _ rfl).1 (w2 1 _ rfl).2 (w2 2 _ rfl).1 (w2 2 _ rfl).2 (w2 3 _ rfl).1 (w2 3 _ rfl).2 (w2 4 _ rfl).1 (w2 4 _ rfl).2 (w2 5 _ rfl).1 (w2 5 _ rfl).2 (w2 6 _ rfl).1 (w2 6 _ rfl).2 (w2 7 _ rfl).1 (w2 7 _ rfl).2 b1 w1
theorem over : Rows.ipcLinesRow.holds Try.pinned (OpenSpec.ofChange Rows.ipcLinesSpec) :=
  OpenClaim.holds_of_wide 3 Try.f3 rfl rfl rfl rfl rfl rfl rfl ⟨rfl, rfl, rfl, rfl, rfl⟩ rfl rfl rfl rfl rfl (by kernel_rfl) Try.func3 (by kernel_rfl)
    (of_decide_eq_true (by kernel_rfl)) (by unfold Func.isWrapper; first | (rw [if_pos (by decide +kernel)]; kernel_rfl) | (rw [if_neg (by decide +kernel)]; exact ⟨rfl, rfl⟩))
    (fun os started H enc _ => lifted os started H enc)
end Go.Proofs.Ytepdekambalmhaa.L_IpcLines
namespace Go.Proofs.Ytepdekambalmhaa
/-- The statement. -/
theorem ipcLines_holds : Rows.IpcLinesSaid := L_IpcLines.over
#print axioms ipcLines_holds
end Go.Proofs.Ytepdekambalmhaa
