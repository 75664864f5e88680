/-
  The law TlbPlays, whatever its input: it returns true and leaves its arguments as they were.
-/
import Derived.Test.YtimdpdkgiibndaaP4ToPL
import Derived.ProofKit
import Derived.KernelRfl
namespace Go.Proofs.Ytimdpdkgiibndaa.L_TlbPlays
open Go.ChangeShapes Go.WideShapes Go.ChangeAt Go.RowKit Go.AM Go.Proofs.Ytimdpdkgiibndaa.G
theorem own : ownKnob Try.prog.godebug = none := by kernel_rfl
set_option maxHeartbeats 2000000 in
set_option maxRecDepth 100000 in
theorem lifted (os : Os) (started : os.Started) (H : Type) (enc : TypeId × Value → H) :
    ReturnsInHanded {} Try.checked os 5 .any (Rows.tlbPlaysSpec.pre6 enc Try.prog Try.f5 Rows.tlbPlaysRow.domain false) (Rows.tlbPlaysSpec.post enc Try.prog Try.f5 false true false false) := by
  refine law_lifted (C := Try.checked) (tb := 4) own started (by kernel_rfl) Try.func5 (by kernel_rfl) (by kernel_rfl) (by kernel_rfl) (by kernel_rfl) rfl ?_
    (ChangeSpec.witness6 (enc := enc) (C := Try.checked) false ⟨#[], #[.slice none 0 0], []⟩ 64 (by kernel_rfl) (by kernel_rfl) (by kernel_rfl) (by kernel_rfl)) ?_
  · intro ds hds
    match ds, hds with
    | [d0], _ => rfl
  · intro W base args ds ps hval0 hA0
    have hval : ∀ (j : Nat) t v, Try.f5.params.toList[j]? = some t → args[j]? = some v → Value.okWide Try.prog W .any base t v := hval0
    have hA : DataW.TrodAll enc Try.prog W 0 (fun _ => true) true Try.f5.params.toList args ds ps := hA0
    clear hval0 hA0
    rw [Try.params5] at hA hval
    obtain ⟨v0, vs0, d0, ds0, p0, q0, rfl, rfl, rfl, h0, t0⟩ := trodAll_cons hA
    obtain ⟨rfl, rfl, rfl⟩ := trodAll_nil t0
    obtain ⟨m0, g0, L0, b0, w0, n0, B0, s0⟩ := open_rows (n := 64) (ks := [.n .i64, .n .u64, .n .u64, .n .i64, .n .i64, .n .i64]) Try.underlying22 (by kernel_rfl) (by kernel_rfl) (by simp) (hval 0 22 v0 rfl rfl) h0
    have R0 := rep_ro_nil W.heap
    have M0 : ∀ (id : Nat) C, (([] : AH))[id]? = some (some C) → C.mut = false := fun id C h => by simp at h
    obtain ⟨R1, M1⟩ := rep_ro_snoc R0 M0 B0 rfl
    refine (fun (l : List At) (hT : (TL_TlbPlays l).sat fun r => r = [.b true]) (hrep : _) (hargs : _) => calls_law (sy := y_TlbPlays) (fuel := 100) (Lp := Lp_TlbPlays_29) o_clone mixed Try.func5 ish_TlbPlays (by kernel_rfl) lk_TlbPlays_29 (l := l) (T := TL_TlbPlays l) (e_TlbPlays l) hT (φ0 := [L0]) hrep hargs) [.r m0 g0] ?_ R1
      (all2_cons ((by have := s0 [L0] 0 rfl; rw [n0] at this; exact this)) (all2_nil))
    have e : TL_TlbPlays [.r m0 g0] = T_TlbPlays m0 g0 := by kernel_rfl
    exact (congrArg (fun t : Tr (List At) => t.sat fun r => r = [.b true]) e).mpr (vc_TlbPlays m0 g0 b0 w0)
theorem over : Rows.tlbPlaysRow.holds Try.pinned (OpenSpec.ofChange Rows.tlbPlaysSpec) :=
  OpenClaim.holds_of_wide 5 Try.f5 rfl rfl rfl rfl rfl rfl rfl ⟨rfl, rfl, rfl, rfl, rfl⟩ rfl rfl rfl rfl rfl (by kernel_rfl) Try.func5 (by kernel_rfl)
    (of_decide_eq_true (by kernel_rfl)) (by unfold Func.isWrapper; first | (rw [if_pos (by decide +kernel)]; kernel_rfl) | (rw [if_neg (by decide +kernel)]; exact ⟨rfl, rfl⟩))
    (fun os started H enc _ => lifted os started H enc)
end Go.Proofs.Ytimdpdkgiibndaa.L_TlbPlays
namespace Go.Proofs.Ytimdpdkgiibndaa
/-- The statement. -/
theorem tlbPlays_holds : Rows.TlbPlaysSaid := L_TlbPlays.over
#print axioms tlbPlays_holds
end Go.Proofs.Ytimdpdkgiibndaa
