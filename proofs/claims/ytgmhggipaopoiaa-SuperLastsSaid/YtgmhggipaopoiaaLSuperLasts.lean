/-
  The law SuperLasts, whatever its input: it returns true and leaves its arguments as they were.
-/
import Derived.Test.YtgmhggipaopoiaaV8ToVU
import Derived.Test.YtgmhggipaopoiaaAn8ToAnR
import Derived.ProofKit
import Derived.KernelRfl
namespace Go.Proofs.Ytgmhggipaopoiaa.L_SuperLasts
open Go.ChangeShapes Go.WideShapes Go.ChangeAt Go.RowKit Go.AM Go.Proofs.Ytgmhggipaopoiaa.G
theorem own : ownKnob Try.prog.godebug = none := by kernel_rfl
set_option maxHeartbeats 2000000 in
set_option maxRecDepth 100000 in
theorem lifted (os : Os) (started : os.Started) (H : Type) (enc : TypeId × Value → H) :
    ReturnsInHanded {} Try.checked os 8 .any (Rows.superLastsSpec.pre6 enc Try.prog Try.f8 Rows.superLastsRow.domain false) (Rows.superLastsSpec.post enc Try.prog Try.f8 false true false false) := by
  refine law_lifted (C := Try.checked) (tb := 4) own started (by kernel_rfl) Try.func8 (by kernel_rfl) (by kernel_rfl) (by kernel_rfl) (by kernel_rfl) rfl ?_
    (ChangeSpec.witness6 (enc := enc) (C := Try.checked) false ⟨#[], #[.agg #[.int .i64 0, .int .i64 0, .int .i64 0, .int .i64 0, .int .i64 0, .int .i64 0, .int .i64 0, .int .i64 0], .agg #[.int .i64 0, .slice none 0 0]], []⟩ 64 (by kernel_rfl) (by kernel_rfl) (by kernel_rfl) (by kernel_rfl)) ?_
  · intro ds hds
    match ds, hds with
    | [d0, d1], _ => rfl
  · intro W base args ds ps hval0 hA0
    have hval : ∀ (j : Nat) t v, Try.f8.params.toList[j]? = some t → args[j]? = some v → Value.okWide Try.prog W .any base t v := hval0
    have hA : DataW.TrodAll enc Try.prog W 0 (fun _ => true) true Try.f8.params.toList args ds ps := hA0
    clear hval0 hA0
    rw [Try.params8] at hA hval
    obtain ⟨v0, vs0, d0, ds0, p0, q0, rfl, rfl, rfl, h0, t0⟩ := trodAll_cons hA
    obtain ⟨v1, vs1, d1, ds1, p1, q1, rfl, rfl, rfl, h1, t1⟩ := trodAll_cons t0
    obtain ⟨rfl, rfl, rfl⟩ := trodAll_nil t1
    obtain ⟨x0, w0, r0⟩ := open_flatF (n := 64) (ks := [.n .i64, .n .i64, .n .i64, .n .i64, .n .i64, .n .i64, .n .i64, .n .i64]) (b := true) (by kernel_rfl) (by kernel_rfl) (hval 0 39 v0 rfl rfl) h0
    obtain ⟨x1, m1, g1, L1, wx1, b1, w1, n1, B1, s1⟩ := open_pow (n := 64) (ks1 := [.n .i64]) (ms := [.n .i64]) (ts := 53) (by kernel_rfl) (by kernel_rfl) Try.underlying53 (by kernel_rfl) (by kernel_rfl) (by simp) (hval 1 55 v1 rfl rfl) h1
    have R0 := rep_ro_nil W.heap
    have M0 : ∀ (id : Nat) C, (([] : AH))[id]? = some (some C) → C.mut = false := fun id C h => by simp at h
    obtain ⟨R1, M1⟩ := rep_ro_snoc R0 M0 B1 rfl
    refine (fun (l : List At) (hT : (TL_SuperLasts l).sat fun r => r = [.b true]) (hrep : _) (hargs : _) => calls_law (sy := y_SuperLasts) (fuel := 100) (Lp := noLoops) o_R2 mixed Try.func8 ish_SuperLasts (by kernel_rfl) (noLoops_ok _) (l := l) (T := TL_SuperLasts l) (e_SuperLasts l) hT (φ0 := [L1]) hrep hargs) [.i (x0 0), .i (x0 1), .i (x0 2), .i (x0 3), .i (x0 4), .i (x0 5), .i (x0 6), .i (x0 7), .i (x1 0), .r m1 g1] ?_ R1
      (all2_cons (r0 _) (all2_cons ((by have := s1 [L1] 0 rfl; rw [n1] at this; exact this)) (all2_nil)))
    have e : TL_SuperLasts [.i (x0 0), .i (x0 1), .i (x0 2), .i (x0 3), .i (x0 4), .i (x0 5), .i (x0 6), .i (x0 7), .i (x1 0), .r m1 g1] = T_SuperLasts (x0 0) (x0 1) (x0 2) (x0 3) (x0 4) (x0 5) (x0 6) (x0 7) (x1 0) m1 g1 := by kernel_rfl
    exact (congrArg (fun t : Tr (List At) => t.sat fun r => r = [.b true]) e).mpr (vc_SuperLasts (x0 0) (x0 1) (x0 2) (x0 3) (x0 4) (x0 5) (x0 6) (x0 7) (x1 0) m1 g1 (w0 0 _ rfl).1 (w0 0 _ rfl).2 (w0 1 _ rfl).1 (w0 1 _ rfl).2 (w0 2 _ rfl).1 (w0 2 _ rfl).2 (w0 3 _ rfl).1 (w0 3 _ rfl).2 (w0 4 _ rfl).1 (w0 4 _ rfl).2 (w0 5 _ rfl).1 (w0 5 _ rfl).2 (w0 6 _ rfl).1 (w0 6 _ rfl).2 (w0 7 _ rfl).1 (w0 7 _ rfl).2 (wx1 0 _ rfl).1 (wx1 0 _ rfl).2 b1 w1)
theorem over : Rows.superLastsRow.holds Try.pinned (OpenSpec.ofChange Rows.superLastsSpec) :=
  OpenClaim.holds_of_wide 8 Try.f8 rfl rfl rfl rfl rfl rfl rfl ⟨rfl, rfl, rfl, rfl, rfl⟩ rfl rfl rfl rfl rfl (by kernel_rfl) Try.func8 (by kernel_rfl)
    (of_decide_eq_true (by kernel_rfl)) (by unfold Func.isWrapper; first | (rw [if_pos (by decide +kernel)]; kernel_rfl) | (rw [if_neg (by decide +kernel)]; exact ⟨rfl, rfl⟩))
    (fun os started H enc _ => lifted os started H enc)
end Go.Proofs.Ytgmhggipaopoiaa.L_SuperLasts
namespace Go.Proofs.Ytgmhggipaopoiaa
/-- The statement. -/
theorem superLasts_holds : Rows.SuperLastsSaid := L_SuperLasts.over
#print axioms superLasts_holds
end Go.Proofs.Ytgmhggipaopoiaa
