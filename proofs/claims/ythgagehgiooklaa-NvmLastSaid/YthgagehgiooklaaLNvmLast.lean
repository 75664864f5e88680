/-
  The law NvmLast, whatever its input: it returns true and leaves its arguments as they were.
-/
import Derived.Test.YthgagehgiooklaaL15ToVL16
import Derived.Test.YthgagehgiooklaaAn9ToAnR
import Derived.ProofKit
import Derived.KernelRfl
namespace Go.Proofs.Ythgagehgiooklaa.L_NvmLast
open Go.ChangeShapes Go.WideShapes Go.ChangeAt Go.RowKit Go.AM Go.Proofs.Ythgagehgiooklaa.G
theorem own : ownKnob Try.prog.godebug = none := by kernel_rfl
set_option maxHeartbeats 2000000 in
set_option maxRecDepth 100000 in
theorem lifted (os : Os) (started : os.Started) (H : Type) (enc : TypeId × Value → H) :
    ReturnsInHanded {} Try.checked os 7 .any (Rows.nvmLastSpec.pre6 enc Try.prog Try.f7 Rows.nvmLastRow.domain false) (Rows.nvmLastSpec.post enc Try.prog Try.f7 false true false false) := by
  refine law_lifted (C := Try.checked) (tb := 4) own started (by kernel_rfl) Try.func7 (by kernel_rfl) (by kernel_rfl) (by kernel_rfl) (by kernel_rfl) rfl ?_
    (ChangeSpec.witness6 (enc := enc) (C := Try.checked) false ⟨#[], #[.slice none 0 0], []⟩ 64 (by kernel_rfl) (by kernel_rfl) (by kernel_rfl) (by kernel_rfl)) ?_
  · intro ds hds
    match ds, hds with
    | [d0], _ => rfl
  · intro W base args ds ps hval0 hA0
    have hval : ∀ (j : Nat) t v, Try.f7.params.toList[j]? = some t → args[j]? = some v → Value.okWide Try.prog W .any base t v := hval0
    have hA : DataW.TrodAll enc Try.prog W 0 (fun _ => true) true Try.f7.params.toList args ds ps := hA0
    clear hval0 hA0
    rw [Try.params7] at hA hval
    obtain ⟨v0, vs0, d0, ds0, p0, q0, rfl, rfl, rfl, h0, t0⟩ := trodAll_cons hA
    obtain ⟨rfl, rfl, rfl⟩ := trodAll_nil t0
    obtain ⟨m0, g0, h0n, L0, LF0, b0, w0, wm0, n0, B0, s0⟩ := open_nrows (n := 64) (ks1 := [.n .i64, .n .i64, .n .i64, .n .i64, .n .u64]) (ms := [.n .i64]) (ts := 23) Try.underlying41 (by kernel_rfl) (by kernel_rfl) Try.underlying23 (by kernel_rfl) (by kernel_rfl) (by simp) (hval 0 41 v0 rfl rfl) h0
    have R0 := rep_ro_nil W.heap
    have M0 : ∀ (id : Nat) C, (([] : AH))[id]? = some (some C) → C.mut = false := fun id C h => by simp at h
    obtain ⟨R1, M1⟩ := rep_ro_snoc2 R0 M0 (fun φ h => B0 φ _ h) rfl
    refine (fun (l : List At) (hT : (TL_NvmLast l).sat fun r => r = [.b true]) (hrep : _) (hargs : _) => calls_law (sy := y_NvmLast) (fuel := 100) (Lp := Lp_NvmLast_21) o_S13 mixed Try.func7 ish_NvmLast (by kernel_rfl) lk_NvmLast_21 (l := l) (T := TL_NvmLast l) (e_NvmLast l) hT (φ0 := [L0, LF0]) hrep hargs) [.q m0 g0 5 1 h0n] ?_ R1
      (all2_cons ((by have := s0 [L0, LF0] 0 rfl; rw [n0] at this; exact this)) (all2_nil))
    have e : TL_NvmLast [.q m0 g0 5 1 h0n] = T_NvmLast m0 g0 h0n := by kernel_rfl
    exact (congrArg (fun t : Tr (List At) => t.sat fun r => r = [.b true]) e).mpr (vc_NvmLast m0 g0 h0n b0 w0 wm0)
theorem over : Rows.nvmLastRow.holds Try.pinned (OpenSpec.ofChange Rows.nvmLastSpec) :=
  OpenClaim.holds_of_wide 7 Try.f7 rfl rfl rfl rfl rfl rfl rfl ⟨rfl, rfl, rfl, rfl, rfl⟩ rfl rfl rfl rfl rfl (by kernel_rfl) Try.func7 (by kernel_rfl)
    (of_decide_eq_true (by kernel_rfl)) (by unfold Func.isWrapper; first | (rw [if_pos (by decide +kernel)]; kernel_rfl) | (rw [if_neg (by decide +kernel)]; exact ⟨rfl, rfl⟩))
    (fun os started H enc _ => lifted os started H enc)
end Go.Proofs.Ythgagehgiooklaa.L_NvmLast
namespace Go.Proofs.Ythgagehgiooklaa
/-- The statement. -/
theorem nvmLast_holds : Rows.NvmLastSaid := L_NvmLast.over
#print axioms nvmLast_holds
end Go.Proofs.Ythgagehgiooklaa
