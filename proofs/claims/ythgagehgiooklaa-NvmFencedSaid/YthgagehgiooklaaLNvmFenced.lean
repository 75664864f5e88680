/-
  The law NvmFenced, whatever its input: it returns true and leaves its arguments as they were.
-/
import Derived.Test.YthgagehgiooklaaL5ToVL6
import Derived.ProofKit
import Derived.KernelRfl
namespace Go.Proofs.Ythgagehgiooklaa.L_NvmFenced
open Go.ChangeShapes Go.WideShapes Go.ChangeAt Go.RowKit Go.AM Go.Proofs.Ythgagehgiooklaa.G
theorem own : ownKnob Try.prog.godebug = none := by kernel_rfl
set_option maxHeartbeats 2000000 in
set_option maxRecDepth 100000 in
theorem lifted (os : Os) (started : os.Started) (H : Type) (enc : TypeId × Value → H) :
    ReturnsInHanded {} Try.checked os 3 .any (Rows.nvmFencedSpec.pre6 enc Try.prog Try.f3 Rows.nvmFencedRow.domain false) (Rows.nvmFencedSpec.post enc Try.prog Try.f3 false true false false) := by
  refine law_lifted (C := Try.checked) (tb := 4) own started (by kernel_rfl) Try.func3 (by kernel_rfl) (by kernel_rfl) (by kernel_rfl) (by kernel_rfl) rfl ?_
    (ChangeSpec.witness6 (enc := enc) (C := Try.checked) false ⟨#[], #[.slice none 0 0, .int .i64 0, .slice none 0 0], []⟩ 64 (by kernel_rfl) (by kernel_rfl) (by kernel_rfl) (by kernel_rfl)) ?_
  · intro ds hds
    match ds, hds with
    | [d0, d1, d2], _ => rfl
  · intro W base args ds ps hval0 hA0
    have hval : ∀ (j : Nat) t v, Try.f3.params.toList[j]? = some t → args[j]? = some v → Value.okWide Try.prog W .any base t v := hval0
    have hA : DataW.TrodAll enc Try.prog W 0 (fun _ => true) true Try.f3.params.toList args ds ps := hA0
    clear hval0 hA0
    rw [Try.params3] at hA hval
    obtain ⟨v0, vs0, d0, ds0, p0, q0, rfl, rfl, rfl, h0, t0⟩ := trodAll_cons hA
    obtain ⟨v1, vs1, d1, ds1, p1, q1, rfl, rfl, rfl, h1, t1⟩ := trodAll_cons t0
    obtain ⟨v2, vs2, d2, ds2, p2, q2, rfl, rfl, rfl, h2, t2⟩ := trodAll_cons t1
    obtain ⟨rfl, rfl, rfl⟩ := trodAll_nil t2
    obtain ⟨m0, g0, L0, b0, w0, n0, B0, s0⟩ := open_rows (n := 64) (ks := [.n .u64]) Try.underlying22 (by kernel_rfl) (by kernel_rfl) (by simp) (hval 0 22 v0 rfl rfl) h0
    obtain ⟨x1, w1, r1⟩ := open_flatF (n := 64) (ks := [.n .i64]) (b := false) (by kernel_rfl) (by kernel_rfl) (hval 1 3 v1 rfl rfl) h1
    obtain ⟨m2, g2, L2, b2, w2, n2, B2, s2⟩ := open_rows (n := 64) (ks := [.n .i64]) Try.underlying23 (by kernel_rfl) (by kernel_rfl) (by simp) (hval 2 23 v2 rfl rfl) h2
    have R0 := rep_ro_nil W.heap
    have M0 : ∀ (id : Nat) C, (([] : AH))[id]? = some (some C) → C.mut = false := fun id C h => by simp at h
    obtain ⟨R1, M1⟩ := rep_ro_snoc R0 M0 B0 rfl
    obtain ⟨R2, M2⟩ := rep_ro_snoc R1 M1 B2 rfl
    refine (fun (l : List At) (hT : (TL_NvmFenced l).sat fun r => r = [.b true]) (hrep : _) (hargs : _) => calls_law (sy := y_NvmFenced) (fuel := 100) (Lp := Lp_NvmFenced_22) o_S13 mixed Try.func3 ish_NvmFenced (by kernel_rfl) lk_NvmFenced_22 (l := l) (T := TL_NvmFenced l) (e_NvmFenced l) hT (φ0 := [L0, L2]) hrep hargs) [.i (x1 0), .r m0 g0, .r m2 g2] ?_ R2
      (all2_cons ((by have := s0 [L0, L2] 0 rfl; rw [n0] at this; exact this)) (all2_cons (r1 _) (all2_cons ((by have := s2 [L0, L2] 1 rfl; rw [n2] at this; exact this)) (all2_nil))))
    have e : TL_NvmFenced [.i (x1 0), .r m0 g0, .r m2 g2] = T_NvmFenced (x1 0) m0 g0 m2 g2 := by kernel_rfl
    exact (congrArg (fun t : Tr (List At) => t.sat fun r => r = [.b true]) e).mpr (vc_NvmFenced (x1 0) m0 g0 m2 g2 (w1 0 _ rfl).1 (w1 0 _ rfl).2 b0 w0 b2 w2)
theorem over : Rows.nvmFencedRow.holds Try.pinned (OpenSpec.ofChange Rows.nvmFencedSpec) :=
  OpenClaim.holds_of_wide 3 Try.f3 rfl rfl rfl rfl rfl rfl rfl ⟨rfl, rfl, rfl, rfl, rfl⟩ rfl rfl rfl rfl rfl (by kernel_rfl) Try.func3 (by kernel_rfl)
    (of_decide_eq_true (by kernel_rfl)) (by unfold Func.isWrapper; first | (rw [if_pos (by decide +kernel)]; kernel_rfl) | (rw [if_neg (by decide +kernel)]; exact ⟨rfl, rfl⟩))
    (fun os started H enc _ => lifted os started H enc)
end Go.Proofs.Ythgagehgiooklaa.L_NvmFenced
namespace Go.Proofs.Ythgagehgiooklaa
/-- The statement. -/
theorem nvmFenced_holds : Rows.NvmFencedSaid := L_NvmFenced.over
#print axioms nvmFenced_holds
end Go.Proofs.Ythgagehgiooklaa
