/-
  The law NvmPlays, whatever its input: it returns true and leaves its arguments as they were.
-/
import Derived.Test.YthgagehgiooklaaV2ToVLp
import Derived.Test.YthgagehgiooklaaAn8ToAnR
import Derived.ProofKit
import Derived.KernelRfl
namespace Go.Proofs.Ythgagehgiooklaa.L_NvmPlays
open Go.ChangeShapes Go.WideShapes Go.ChangeAt Go.RowKit Go.AM Go.Proofs.Ythgagehgiooklaa.G
theorem own : ownKnob Try.prog.godebug = none := by kernel_rfl
set_option maxHeartbeats 2000000 in
set_option maxRecDepth 100000 in
theorem lifted (os : Os) (started : os.Started) (H : Type) (enc : TypeId × Value → H) :
    ReturnsInHanded {} Try.checked os 11 .any (Rows.nvmPlaysSpec.pre6 enc Try.prog Try.f11 Rows.nvmPlaysRow.domain false) (Rows.nvmPlaysSpec.post enc Try.prog Try.f11 false true false false) := by
  refine law_lifted (C := Try.checked) (tb := 4) own started (by kernel_rfl) Try.func11 (by kernel_rfl) (by kernel_rfl) (by kernel_rfl) (by kernel_rfl) rfl ?_
    (ChangeSpec.witness6 (enc := enc) (C := Try.checked) false ⟨#[], #[.int .i64 0, .slice none 0 0], []⟩ 64 (by kernel_rfl) (by kernel_rfl) (by kernel_rfl) (by kernel_rfl)) ?_
  · intro ds hds
    match ds, hds with
    | [d0, d1], _ => rfl
  · intro W base args ds ps hval0 hA0
    have hval : ∀ (j : Nat) t v, Try.f11.params.toList[j]? = some t → args[j]? = some v → Value.okWide Try.prog W .any base t v := hval0
    have hA : DataW.TrodAll enc Try.prog W 0 (fun _ => true) true Try.f11.params.toList args ds ps := hA0
    clear hval0 hA0
    rw [Try.params11] at hA hval
    obtain ⟨v0, vs0, d0, ds0, p0, q0, rfl, rfl, rfl, h0, t0⟩ := trodAll_cons hA
    obtain ⟨v1, vs1, d1, ds1, p1, q1, rfl, rfl, rfl, h1, t1⟩ := trodAll_cons t0
    obtain ⟨rfl, rfl, rfl⟩ := trodAll_nil t1
    obtain ⟨x0, w0, r0⟩ := open_flatF (n := 64) (ks := [.n .i64]) (b := false) (by kernel_rfl) (by kernel_rfl) (hval 0 3 v0 rfl rfl) h0
    obtain ⟨m1, g1, h1n, L1, LF1, b1, w1, wm1, n1, B1, s1⟩ := open_nrows (n := 64) (ks1 := [.n .i64, .n .i64, .n .i64, .n .i64, .n .u64]) (ms := [.n .i64]) (ts := 23) Try.underlying41 (by kernel_rfl) (by kernel_rfl) Try.underlying23 (by kernel_rfl) (by kernel_rfl) (by simp) (hval 1 41 v1 rfl rfl) h1
    have R0 := rep_ro_nil W.heap
    have M0 : ∀ (id : Nat) C, (([] : AH))[id]? = some (some C) → C.mut = false := fun id C h => by simp at h
    obtain ⟨R1, M1⟩ := rep_ro_snoc2 R0 M0 (fun φ h => B1 φ _ h) rfl
    refine (fun (l : List At) (hT : (TL_NvmPlays l).sat fun r => r = [.b true]) (hrep : _) (hargs : _) => calls_law (sy := y_NvmPlays) (fuel := 100) (Lp := Lp_NvmPlays_26) (SpecOK.upd o_D2 s_same) mixed Try.func11 ish_NvmPlays (by kernel_rfl) lk_NvmPlays_26 (l := l) (T := TL_NvmPlays l) (e_NvmPlays l) hT (φ0 := [L1, LF1]) hrep hargs) [.i (x0 0), .q m1 g1 5 1 h1n] ?_ R1
      (all2_cons (r0 _) (all2_cons ((by have := s1 [L1, LF1] 0 rfl; rw [n1] at this; exact this)) (all2_nil)))
    have e : TL_NvmPlays [.i (x0 0), .q m1 g1 5 1 h1n] = T_NvmPlays (x0 0) m1 g1 h1n := by kernel_rfl
    exact (congrArg (fun t : Tr (List At) => t.sat fun r => r = [.b true]) e).mpr (vc_NvmPlays (x0 0) m1 g1 h1n (w0 0 _ rfl).1 (w0 0 _ rfl).2 b1 w1 wm1)
theorem over : Rows.nvmPlaysRow.holds Try.pinned (OpenSpec.ofChange Rows.nvmPlaysSpec) :=
  OpenClaim.holds_of_wide 11 Try.f11 rfl rfl rfl rfl rfl rfl rfl ⟨rfl, rfl, rfl, rfl, rfl⟩ rfl rfl rfl rfl rfl (by kernel_rfl) Try.func11 (by kernel_rfl)
    (of_decide_eq_true (by kernel_rfl)) (by unfold Func.isWrapper; first | (rw [if_pos (by decide +kernel)]; kernel_rfl) | (rw [if_neg (by decide +kernel)]; exact ⟨rfl, rfl⟩))
    (fun os started H enc _ => lifted os started H enc)
end Go.Proofs.Ythgagehgiooklaa.L_NvmPlays
namespace Go.Proofs.Ythgagehgiooklaa
/-- The statement. -/
theorem nvmPlays_holds : Rows.NvmPlaysSaid := L_NvmPlays.over
#print axioms nvmPlays_holds
end Go.Proofs.Ythgagehgiooklaa
