/-
  The law NvmOf, whatever its input: it returns true and leaves its arguments as they were.
-/
import Derived.Test.YthgagehgiooklaaN4ToVNo
import Derived.Test.YthgagehgiooklaaAn9ToAnR
import Derived.ProofKit
import Derived.KernelRfl
namespace Go.Proofs.Ythgagehgiooklaa.L_NvmOf
open Go.ChangeShapes Go.WideShapes Go.ChangeAt Go.RowKit Go.AM Go.Proofs.Ythgagehgiooklaa.G
theorem own : ownKnob Try.prog.godebug = none := by kernel_rfl
set_option maxHeartbeats 2000000 in
set_option maxRecDepth 100000 in
theorem lifted (os : Os) (started : os.Started) (H : Type) (enc : TypeId × Value → H) :
    ReturnsInHanded {} Try.checked os 10 .any (Rows.nvmOfSpec.pre6 enc Try.prog Try.f10 Rows.nvmOfRow.domain false) (Rows.nvmOfSpec.post enc Try.prog Try.f10 false true false false) := by
  refine law_lifted_sized (C := Try.checked) (tb := 4) own started (by kernel_rfl) Try.func10 (by kernel_rfl) (by kernel_rfl) (by kernel_rfl) (by kernel_rfl) rfl ?_
    (ChangeSpec.witness6 (enc := enc) (C := Try.checked) false ⟨#[], #[.slice none 0 0], []⟩ 64 (by kernel_rfl) (by kernel_rfl) (by kernel_rfl) (by kernel_rfl)) ?_
  · intro ds hds
    match ds, hds with
    | [d0], _ => rfl
  · intro W base args ds ps hval0 hA0 hz0
    have hval : ∀ (j : Nat) t v, Try.f10.params.toList[j]? = some t → args[j]? = some v → Value.okWide Try.prog W .any base t v := hval0
    have hA : DataW.TrodAll enc Try.prog W 0 (fun _ => true) true Try.f10.params.toList args ds ps := hA0
    have hz : ∀ (j : Nat) (t e : TypeId) (E S : List (DataW H)), Try.f10.params.toList[j]? = some t → ds[j]? = some (.slice E S) → Try.prog.underlying t = some (.slice e) → (E.length + S.length) * Try.prog.bytesOf e ≤ reachBytes := hz0
    clear hval0 hA0 hz0
    rw [Try.params10] at hA hval hz
    obtain ⟨v0, vs0, d0, ds0, p0, q0, rfl, rfl, rfl, h0, t0⟩ := trodAll_cons hA
    obtain ⟨rfl, rfl, rfl⟩ := trodAll_nil t0
    obtain ⟨m0, g0, L0, b0, w0, n0, B0, s0, z0⟩ := open_rows_sized (n := 64) (ks := [.n .u64, .n .u64, .n .u64, .n .u64, .n .u64, .n .u64, .n .u64, .n .u64]) Try.underlying47 (by kernel_rfl) (by kernel_rfl) (by simp) (hval 0 47 v0 rfl rfl) h0 (fun E S he => hz 0 47 36 E S rfl (by rw [he]; rfl) Try.underlying47)
    rw [show Try.prog.bytesOf 36 = 64 by kernel_rfl] at z0
    have R0 := rep_ro_nil W.heap
    have M0 : ∀ (id : Nat) C, (([] : AH))[id]? = some (some C) → C.mut = false := fun id C h => by simp at h
    obtain ⟨R1, M1⟩ := rep_ro_snoc R0 M0 B0 rfl
    refine (fun (l : List At) (hT : (TL_NvmOf l).sat fun r => r = [.b true]) (hrep : _) (hargs : _) => calls_law (sy := y_NvmOf) (fuel := 100) (Lp := Lp_NvmOf_9) (SpecOK.upd o_same s_of) mixed Try.func10 ish_NvmOf (by kernel_rfl) lk_NvmOf_9 (l := l) (T := TL_NvmOf l) (e_NvmOf l) hT (φ0 := [L0]) hrep hargs) [.r m0 g0] ?_ R1
      (all2_cons ((by have := s0 [L0] 0 rfl; rw [n0] at this; exact this)) (all2_nil))
    have e : TL_NvmOf [.r m0 g0] = T_NvmOf m0 g0 := by kernel_rfl
    exact (congrArg (fun t : Tr (List At) => t.sat fun r => r = [.b true]) e).mpr (vc_NvmOf m0 g0 b0 w0 z0)
theorem over : Rows.nvmOfRow.holds Try.pinned (OpenSpec.ofChange Rows.nvmOfSpec) :=
  OpenClaim.holds_of_wide 10 Try.f10 rfl rfl rfl rfl rfl rfl rfl ⟨rfl, rfl, rfl, rfl, rfl⟩ rfl rfl rfl rfl rfl (by kernel_rfl) Try.func10 (by kernel_rfl)
    (of_decide_eq_true (by kernel_rfl)) (by unfold Func.isWrapper; first | (rw [if_pos (by decide +kernel)]; kernel_rfl) | (rw [if_neg (by decide +kernel)]; exact ⟨rfl, rfl⟩))
    (fun os started H enc _ => lifted os started H enc)
end Go.Proofs.Ythgagehgiooklaa.L_NvmOf
namespace Go.Proofs.Ythgagehgiooklaa
/-- The statement. -/
theorem nvmOf_holds : Rows.NvmOfSaid := L_NvmOf.over
#print axioms nvmOf_holds
end Go.Proofs.Ythgagehgiooklaa
