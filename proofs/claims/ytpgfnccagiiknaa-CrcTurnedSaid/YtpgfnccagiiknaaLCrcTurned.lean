/-
  The law CrcTurned, whatever its input: it returns true and leaves its arguments as they were.
-/
import Derived.Test.YtpgfnccagiiknaaV8
import Derived.ProofKit
import Derived.KernelRfl
namespace Go.Proofs.Ytpgfnccagiiknaa.L_CrcTurned
open Go.ChangeShapes Go.WideShapes Go.ChangeAt Go.RowKit Go.AM Go.Proofs.Ytpgfnccagiiknaa.G
theorem own : ownKnob Try.prog.godebug = none := by kernel_rfl
set_option maxRecDepth 100000 in
theorem lifted (os : Os) (started : os.Started) (H : Type) (enc : TypeId × Value → H) :
    ReturnsInHanded {} Try.checked os 8 .any (Rows.crcTurnedSpec.pre6 enc Try.prog Try.f8 Rows.crcTurnedRow.domain false) (Rows.crcTurnedSpec.post enc Try.prog Try.f8 false true false false) := by
  refine law_lifted (C := Try.checked) (tb := 4) own started (by kernel_rfl) Try.func8 (by kernel_rfl) (by kernel_rfl) (by kernel_rfl) (by kernel_rfl) rfl ?_
    (ChangeSpec.witness6 (enc := enc) (C := Try.checked) false ⟨#[], #[.slice none 0 0, .agg #[.int .u64 0, .int .u64 0, .int .u64 0, .int .u64 0, .int .u64 0, .int .u64 0, .int .u64 0, .int .u64 0], .agg #[.int .i64 0, .int .i64 0]], []⟩ 64 (by kernel_rfl) (by kernel_rfl) (by kernel_rfl) (by kernel_rfl)) ?_
  · intro ds hds
    match ds, hds with
    | [d0, d1, d2], _ => rfl
  · intro W base args ds ps hval0 hA0
    have hval : ∀ (j : Nat) t v, Try.f8.params.toList[j]? = some t → args[j]? = some v → Value.okWide Try.prog W .any base t v := hval0
    have hA : DataW.TrodAll enc Try.prog W 0 (fun _ => true) true Try.f8.params.toList args ds ps := hA0
    clear hval0 hA0
    rw [Try.params8] at hA hval
    obtain ⟨v0, vs0, d0, ds0, p0, q0, rfl, rfl, rfl, h0, t0⟩ := trodAll_cons hA
    obtain ⟨v1, vs1, d1, ds1, p1, q1, rfl, rfl, rfl, h1, t1⟩ := trodAll_cons t0
    obtain ⟨v2, vs2, d2, ds2, p2, q2, rfl, rfl, rfl, h2, t2⟩ := trodAll_cons t1
    obtain ⟨rfl, rfl, rfl⟩ := trodAll_nil t2
    obtain ⟨m0, g0, L0, b0, w0, n0, B0, s0⟩ := open_rows (n := 64) (ks := [.n .u8]) Try.underlying22 (by kernel_rfl) (by kernel_rfl) (by simp) (hval 0 22 v0 rfl rfl) h0
    obtain ⟨x1, w1, r1⟩ := open_flatF (n := 64) (ks := [.n .u64, .n .u64, .n .u64, .n .u64, .n .u64, .n .u64, .n .u64, .n .u64]) (b := true) (by kernel_rfl) (by kernel_rfl) (hval 1 32 v1 rfl rfl) h1
    obtain ⟨x2, w2, r2⟩ := open_flatF (n := 64) (ks := [.n .i64, .n .i64]) (b := true) (by kernel_rfl) (by kernel_rfl) (hval 2 36 v2 rfl rfl) h2
    have R0 := rep_ro_nil W.heap
    have M0 : ∀ (id : Nat) C, (([] : AH))[id]? = some (some C) → C.mut = false := fun id C h => by simp at h
    obtain ⟨R1, M1⟩ := rep_ro_snoc R0 M0 B0 rfl
    refine calls_law (sy := y_CrcTurned) (fuel := 100) (Lp := noLoops) o_wordOfBytes mixed Try.func8 ish_CrcTurned (by kernel_rfl) (noLoops_ok _) (l := [.i (x1 0), .i (x1 1), .i (x1 2), .i (x1 3), .i (x1 4), .i (x1 5), .i (x1 6), .i (x1 7), .i (x2 0), .i (x2 1), .r m0 g0]) (T := TL_CrcTurned [.i (x1 0), .i (x1 1), .i (x1 2), .i (x1 3), .i (x1 4), .i (x1 5), .i (x1 6), .i (x1 7), .i (x2 0), .i (x2 1), .r m0 g0]) (e_CrcTurned _) ?_ (φ0 := [L0]) R1
      (all2_cons ((by have := s0 [L0] 0 rfl; rw [n0] at this; exact this)) (all2_cons (r1 _) (all2_cons (r2 _) (all2_nil))))
    exact vc_CrcTurned (x1 0) (x1 1) (x1 2) (x1 3) (x1 4) (x1 5) (x1 6) (x1 7) (x2 0) (x2 1) m0 g0 (w1 0 _ rfl).1 (w1 0 _ rfl).2 (w1 1 _ rfl).1 (w1 1 _ rfl).2 (w1 2 _ rfl).1 (w1 2 _ rfl).2 (w1 3 _ rfl).1 (w1 3 _ rfl).2 (w1 4 _ rfl).1 (w1 4 _ rfl).2 (w1 5 _ rfl).1 (w1 5 _ rfl).2 (w1 6 _ rfl).1 (w1 6 _ rfl).2 (w1 7 _ rfl).1 (w1 7 _ rfl).2 (w2 0 _ rfl).1 (w2 0 _ rfl).2 (w2 1 _ rfl).1 (w2 1 _ rfl).2 b0 w0
theorem over : Rows.crcTurnedRow.holds Try.pinned (OpenSpec.ofChange Rows.crcTurnedSpec) :=
  OpenClaim.holds_of_wide 8 Try.f8 rfl rfl rfl rfl rfl rfl rfl ⟨rfl, rfl, rfl, rfl, rfl⟩ rfl rfl rfl rfl rfl (by kernel_rfl) Try.func8 (by kernel_rfl)
    (of_decide_eq_true (by kernel_rfl)) (by unfold Func.isWrapper; first | (rw [if_pos (by decide +kernel)]; kernel_rfl) | (rw [if_neg (by decide +kernel)]; exact ⟨rfl, rfl⟩))
    (fun os started H enc _ => lifted os started H enc)
end Go.Proofs.Ytpgfnccagiiknaa.L_CrcTurned
namespace Go.Proofs.Ytpgfnccagiiknaa
/-- The statement. -/
theorem crcTurned_holds : Rows.CrcTurnedSaid := L_CrcTurned.over
#print axioms crcTurned_holds
end Go.Proofs.Ytpgfnccagiiknaa
