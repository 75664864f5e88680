/-
  The law CrcSums, whatever its input: it returns true and leaves its arguments as they were.
-/
import Derived.Test.YtpgfnccagiiknaaV3
import Derived.ProofKit
import Derived.KernelRfl
namespace Go.Proofs.Ytpgfnccagiiknaa.L_CrcSums
open Go.ChangeShapes Go.WideShapes Go.ChangeAt Go.RowKit Go.AM Go.Proofs.Ytpgfnccagiiknaa.G
theorem own : ownKnob Try.prog.godebug = none := by kernel_rfl
set_option maxRecDepth 100000 in
theorem lifted (os : Os) (started : os.Started) (H : Type) (enc : TypeId × Value → H) :
    ReturnsInHanded {} Try.checked os 3 .any (Rows.crcSumsSpec.pre6 enc Try.prog Try.f3 Rows.crcSumsRow.domain false) (Rows.crcSumsSpec.post enc Try.prog Try.f3 false true false false) := by
  refine law_lifted (C := Try.checked) (tb := 4) own started (by kernel_rfl) Try.func3 (by kernel_rfl) (by kernel_rfl) (by kernel_rfl) (by kernel_rfl) rfl ?_
    (ChangeSpec.witness6 (enc := enc) (C := Try.checked) false ⟨#[], #[.slice none 0 0, .int .u32 0], []⟩ 64 (by kernel_rfl) (by kernel_rfl) (by kernel_rfl) (by kernel_rfl)) ?_
  · intro ds hds
    match ds, hds with
    | [d0, d1], _ => rfl
  · intro W base args ds ps hval0 hA0
    have hval : ∀ (j : Nat) t v, Try.f3.params.toList[j]? = some t → args[j]? = some v → Value.okWide Try.prog W .any base t v := hval0
    have hA : DataW.TrodAll enc Try.prog W 0 (fun _ => true) true Try.f3.params.toList args ds ps := hA0
    clear hval0 hA0
    rw [Try.params3] at hA hval
    obtain ⟨v0, vs0, d0, ds0, p0, q0, rfl, rfl, rfl, h0, t0⟩ := trodAll_cons hA
    obtain ⟨v1, vs1, d1, ds1, p1, q1, rfl, rfl, rfl, h1, t1⟩ := trodAll_cons t0
    obtain ⟨rfl, rfl, rfl⟩ := trodAll_nil t1
    obtain ⟨m0, g0, L0, b0, w0, n0, B0, s0⟩ := open_rows (n := 64) (ks := [.n .u8]) Try.underlying22 (by kernel_rfl) (by kernel_rfl) (by simp) (hval 0 22 v0 rfl rfl) h0
    obtain ⟨x1, w1, r1⟩ := open_flatF (n := 64) (ks := [.n .u32]) (b := false) (by kernel_rfl) (by kernel_rfl) (hval 1 23 v1 rfl rfl) h1
    have R0 := rep_ro_nil W.heap
    have M0 : ∀ (id : Nat) C, (([] : AH))[id]? = some (some C) → C.mut = false := fun id C h => by simp at h
    obtain ⟨R1, M1⟩ := rep_ro_snoc R0 M0 B0 rfl
    refine calls_law (sy := y_CrcSums) (fuel := 100) (Lp := noLoops) o_shown mixed Try.func3 ish_CrcSums (by kernel_rfl) (noLoops_ok _) (l := [.i (x1 0), .r m0 g0]) (T := TL_CrcSums [.i (x1 0), .r m0 g0]) (e_CrcSums _) ?_ (φ0 := [L0]) R1
      (all2_cons ((by have := s0 [L0] 0 rfl; rw [n0] at this; exact this)) (all2_cons (r1 _) (all2_nil)))
    exact vc_CrcSums (x1 0) m0 g0 (w1 0 _ rfl).1 (w1 0 _ rfl).2 b0 w0
theorem over : Rows.crcSumsRow.holds Try.pinned (OpenSpec.ofChange Rows.crcSumsSpec) :=
  OpenClaim.holds_of_wide 3 Try.f3 rfl rfl rfl rfl rfl rfl rfl ⟨rfl, rfl, rfl, rfl, rfl⟩ rfl rfl rfl rfl rfl (by kernel_rfl) Try.func3 (by kernel_rfl)
    (of_decide_eq_true (by kernel_rfl)) (by unfold Func.isWrapper; first | (rw [if_pos (by decide +kernel)]; kernel_rfl) | (rw [if_neg (by decide +kernel)]; exact ⟨rfl, rfl⟩))
    (fun os started H enc _ => lifted os started H enc)
end Go.Proofs.Ytpgfnccagiiknaa.L_CrcSums
namespace Go.Proofs.Ytpgfnccagiiknaa
/-- The statement. -/
theorem crcSums_holds : Rows.CrcSumsSaid := L_CrcSums.over
#print axioms crcSums_holds
end Go.Proofs.Ytpgfnccagiiknaa
