/-
  The law NvmSure, whatever its input: it returns true and leaves its arguments as they were.
-/
import Derived.Test.YthgagehgiooklaaSm2ToVL13
import Derived.Test.YthgagehgiooklaaAn9ToAnR
import Derived.ProofKit
import Derived.KernelRfl
namespace Go.Proofs.Ythgagehgiooklaa.L_NvmSure
open Go.ChangeShapes Go.WideShapes Go.ChangeAt Go.RowKit Go.AM Go.Proofs.Ythgagehgiooklaa.G
theorem own : ownKnob Try.prog.godebug = none := by kernel_rfl
set_option maxHeartbeats 2000000 in
set_option maxRecDepth 100000 in
theorem lifted (os : Os) (started : os.Started) (H : Type) (enc : TypeId × Value → H) :
    ReturnsInHanded {} Try.checked os 6 .any (Rows.nvmSureSpec.pre6 enc Try.prog Try.f6 Rows.nvmSureRow.domain false) (Rows.nvmSureSpec.post enc Try.prog Try.f6 false true false false) := by
  refine law_lifted (C := Try.checked) (tb := 4) own started (by kernel_rfl) Try.func6 (by kernel_rfl) (by kernel_rfl) (by kernel_rfl) (by kernel_rfl) rfl ?_
    (ChangeSpec.witness6 (enc := enc) (C := Try.checked) false ⟨#[], #[.slice none 0 0, .slice none 0 0], []⟩ 64 (by kernel_rfl) (by kernel_rfl) (by kernel_rfl) (by kernel_rfl)) ?_
  · intro ds hds
    match ds, hds with
    | [d0, d1], _ => rfl
  · intro W base args ds ps hval0 hA0
    have hval : ∀ (j : Nat) t v, Try.f6.params.toList[j]? = some t → args[j]? = some v → Value.okWide Try.prog W .any base t v := hval0
    have hA : DataW.TrodAll enc Try.prog W 0 (fun _ => true) true Try.f6.params.toList args ds ps := hA0
    clear hval0 hA0
    rw [Try.params6] at hA hval
    obtain ⟨v0, vs0, d0, ds0, p0, q0, rfl, rfl, rfl, h0, t0⟩ := trodAll_cons hA
    obtain ⟨v1, vs1, d1, ds1, p1, q1, rfl, rfl, rfl, h1, t1⟩ := trodAll_cons t0
    obtain ⟨rfl, rfl, rfl⟩ := trodAll_nil t1
    obtain ⟨m0, g0, h0n, L0, LF0, b0, w0, wm0, n0, B0, s0⟩ := open_nrows (n := 64) (ks1 := [.n .i64, .n .i64, .n .i64, .n .i64, .n .u64]) (ms := [.n .i64]) (ts := 23) Try.underlying41 (by kernel_rfl) (by kernel_rfl) Try.underlying23 (by kernel_rfl) (by kernel_rfl) (by simp) (hval 0 41 v0 rfl rfl) h0
    obtain ⟨m1, g1, L1, b1, w1, n1, B1, s1⟩ := open_rows (n := 64) (ks := [.n .i64]) Try.underlying23 (by kernel_rfl) (by kernel_rfl) (by simp) (hval 1 23 v1 rfl rfl) h1
    have R0 := rep_ro_nil W.heap
    have M0 : ∀ (id : Nat) C, (([] : AH))[id]? = some (some C) → C.mut = false := fun id C h => by simp at h
    obtain ⟨R1, M1⟩ := rep_ro_snoc2 R0 M0 (fun φ h => B0 φ _ h) rfl
    obtain ⟨R2, M2⟩ := rep_ro_snoc R1 M1 B1 rfl
    refine (fun (l : List At) (hT : (TL_NvmSure l).sat fun r => r = [.b true]) (hrep : _) (hargs : _) => calls_law (sy := y_NvmSure) (fuel := 100) (Lp := Lp_NvmSure_26) o_same mixed Try.func6 ish_NvmSure (by kernel_rfl) lk_NvmSure_26 (l := l) (T := TL_NvmSure l) (e_NvmSure l) hT (φ0 := [L0, LF0, L1]) hrep hargs) [.q m0 g0 5 1 h0n, .r m1 g1] ?_ R2
      (all2_cons ((by have := s0 [L0, LF0, L1] 0 rfl; rw [n0] at this; exact this)) (all2_cons ((by have := s1 [L0, LF0, L1] 2 rfl; rw [n1] at this; exact this)) (all2_nil)))
    have e : TL_NvmSure [.q m0 g0 5 1 h0n, .r m1 g1] = T_NvmSure m0 g0 h0n m1 g1 := by kernel_rfl
    exact (congrArg (fun t : Tr (List At) => t.sat fun r => r = [.b true]) e).mpr (vc_NvmSure m0 g0 h0n m1 g1 b0 w0 wm0 b1 w1)
theorem over : Rows.nvmSureRow.holds Try.pinned (OpenSpec.ofChange Rows.nvmSureSpec) :=
  OpenClaim.holds_of_wide 6 Try.f6 rfl rfl rfl rfl rfl rfl rfl ⟨rfl, rfl, rfl, rfl, rfl⟩ rfl rfl rfl rfl rfl (by kernel_rfl) Try.func6 (by kernel_rfl)
    (of_decide_eq_true (by kernel_rfl)) (by unfold Func.isWrapper; first | (rw [if_pos (by decide +kernel)]; kernel_rfl) | (rw [if_neg (by decide +kernel)]; exact ⟨rfl, rfl⟩))
    (fun os started H enc _ => lifted os started H enc)
end Go.Proofs.Ythgagehgiooklaa.L_NvmSure
namespace Go.Proofs.Ythgagehgiooklaa
/-- The statement. -/
theorem nvmSure_holds : Rows.NvmSureSaid := L_NvmSure.over
#print axioms nvmSure_holds
end Go.Proofs.Ythgagehgiooklaa
