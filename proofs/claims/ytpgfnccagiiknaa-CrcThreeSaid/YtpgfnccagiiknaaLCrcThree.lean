/-
  The law CrcThree, whatever its input: it returns true and leaves its arguments as they were.
-/
import Derived.Test.YtpgfnccagiiknaaV6
import Derived.ProofKit
import Derived.KernelRfl
namespace Go.Proofs.Ytpgfnccagiiknaa.L_CrcThree
open Go.ChangeShapes Go.WideShapes Go.ChangeAt Go.RowKit Go.AM Go.Proofs.Ytpgfnccagiiknaa.G
theorem own : ownKnob Try.prog.godebug = none := by kernel_rfl
set_option maxRecDepth 100000 in
theorem lifted (os : Os) (started : os.Started) (H : Type) (enc : TypeId × Value → H) :
    ReturnsInHanded {} Try.checked os 6 .any (Rows.crcThreeSpec.pre6 enc Try.prog Try.f6 Rows.crcThreeRow.domain false) (Rows.crcThreeSpec.post enc Try.prog Try.f6 false true false false) := by
  refine law_lifted (C := Try.checked) (tb := 4) own started (by kernel_rfl) Try.func6 (by kernel_rfl) (by kernel_rfl) (by kernel_rfl) (by kernel_rfl) rfl ?_
    (ChangeSpec.witness6 (enc := enc) (C := Try.checked) false ⟨#[], #[.slice none 0 0, .slice none 0 0, .slice none 0 0], []⟩ 64 (by kernel_rfl) (by kernel_rfl) (by kernel_rfl) (by kernel_rfl)) ?_
  · intro ds hds
    match ds, hds with
    | [d0, d1, d2], _ => rfl
  · intro W base args ds ps hval0 hA0
    have hval : ∀ (j : Nat) t v, Try.f6.params.toList[j]? = some t → args[j]? = some v → Value.okWide Try.prog W .any base t v := hval0
    have hA : DataW.TrodAll enc Try.prog W 0 (fun _ => true) true Try.f6.params.toList args ds ps := hA0
    clear hval0 hA0
    rw [Try.params6] at hA hval
    obtain ⟨v0, vs0, d0, ds0, p0, q0, rfl, rfl, rfl, h0, t0⟩ := trodAll_cons hA
    obtain ⟨v1, vs1, d1, ds1, p1, q1, rfl, rfl, rfl, h1, t1⟩ := trodAll_cons t0
    obtain ⟨v2, vs2, d2, ds2, p2, q2, rfl, rfl, rfl, h2, t2⟩ := trodAll_cons t1
    obtain ⟨rfl, rfl, rfl⟩ := trodAll_nil t2
    obtain ⟨m0, g0, L0, b0, w0, n0, B0, s0⟩ := open_rows (n := 64) (ks := [.n .u8]) Try.underlying22 (by kernel_rfl) (by kernel_rfl) (by simp) (hval 0 22 v0 rfl rfl) h0
    obtain ⟨m1, g1, L1, b1, w1, n1, B1, s1⟩ := open_rows (n := 64) (ks := [.n .u8]) Try.underlying22 (by kernel_rfl) (by kernel_rfl) (by simp) (hval 1 22 v1 rfl rfl) h1
    obtain ⟨m2, g2, L2, b2, w2, n2, B2, s2⟩ := open_rows (n := 64) (ks := [.n .u8]) Try.underlying22 (by kernel_rfl) (by kernel_rfl) (by simp) (hval 2 22 v2 rfl rfl) h2
    have R0 := rep_ro_nil W.heap
    have M0 : ∀ (id : Nat) C, (([] : AH))[id]? = some (some C) → C.mut = false := fun id C h => by simp at h
    obtain ⟨R1, M1⟩ := rep_ro_snoc R0 M0 B0 rfl
    obtain ⟨R2, M2⟩ := rep_ro_snoc R1 M1 B1 rfl
    obtain ⟨R3, M3⟩ := rep_ro_snoc R2 M2 B2 rfl
    refine calls_law (sy := y_CrcThree) (fuel := 100) (Lp := Lp_CrcThree_5) o_shown mixed Try.func6 ish_CrcThree (by kernel_rfl) lk_CrcThree_5 (l := [.r m0 g0, .r m1 g1, .r m2 g2]) (T := TL_CrcThree [.r m0 g0, .r m1 g1, .r m2 g2]) (e_CrcThree _) ?_ (φ0 := [L0, L1, L2]) R3
      (all2_cons ((by have := s0 [L0, L1, L2] 0 rfl; rw [n0] at this; exact this)) (all2_cons ((by have := s1 [L0, L1, L2] 1 rfl; rw [n1] at this; exact this)) (all2_cons ((by have := s2 [L0, L1, L2] 2 rfl; rw [n2] at this; exact this)) (all2_nil))))
    exact vc_CrcThree m0 g0 m1 g1 m2 g2 b0 w0 b1 w1 b2 w2
theorem over : Rows.crcThreeRow.holds Try.pinned (OpenSpec.ofChange Rows.crcThreeSpec) :=
  OpenClaim.holds_of_wide 6 Try.f6 rfl rfl rfl rfl rfl rfl rfl ⟨rfl, rfl, rfl, rfl, rfl⟩ rfl rfl rfl rfl rfl (by kernel_rfl) Try.func6 (by kernel_rfl)
    (of_decide_eq_true (by kernel_rfl)) (by unfold Func.isWrapper; first | (rw [if_pos (by decide +kernel)]; kernel_rfl) | (rw [if_neg (by decide +kernel)]; exact ⟨rfl, rfl⟩))
    (fun os started H enc _ => lifted os started H enc)
end Go.Proofs.Ytpgfnccagiiknaa.L_CrcThree
namespace Go.Proofs.Ytpgfnccagiiknaa
/-- The statement. -/
theorem crcThree_holds : Rows.CrcThreeSaid := L_CrcThree.over
#print axioms crcThree_holds
end Go.Proofs.Ytpgfnccagiiknaa
