/-
  The law RlogLasts, whatever its input: it returns true and leaves its arguments as they were.
-/
import Derived.Test.YthpcjcdiaifoiaaL6ToVL9
import Derived.ProofKit
import Derived.KernelRfl
namespace Go.Proofs.Ythpcjcdiaifoiaa.L_RlogLasts
open Go.ChangeShapes Go.WideShapes Go.ChangeAt Go.RowKit Go.AM Go.Proofs.Ythpcjcdiaifoiaa.G
theorem own : ownKnob Try.prog.godebug = none := by kernel_rfl
set_option maxHeartbeats 2000000 in
set_option maxRecDepth 100000 in
theorem lifted (os : Os) (started : os.Started) (H : Type) (enc : TypeId × Value → H) :
    ReturnsInHanded {} Try.checked os 9 .any (Rows.rlogLastsSpec.pre6 enc Try.prog Try.f9 Rows.rlogLastsRow.domain false) (Rows.rlogLastsSpec.post enc Try.prog Try.f9 false true false false) := by
  refine law_lifted (C := Try.checked) (tb := 4) own started (by kernel_rfl) Try.func9 (by kernel_rfl) (by kernel_rfl) (by kernel_rfl) (by kernel_rfl) rfl ?_
    (ChangeSpec.witness6 (enc := enc) (C := Try.checked) false ⟨#[], #[.int .i64 0, .int .i64 0, .slice none 0 0], []⟩ 64 (by kernel_rfl) (by kernel_rfl) (by kernel_rfl) (by kernel_rfl)) ?_
  · intro ds hds
    match ds, hds with
    | [d0, d1, d2], _ => rfl
  · intro W base args ds ps hval0 hA0
    have hval : ∀ (j : Nat) t v, Try.f9.params.toList[j]? = some t → args[j]? = some v → Value.okWide Try.prog W .any base t v := hval0
    have hA : DataW.TrodAll enc Try.prog W 0 (fun _ => true) true Try.f9.params.toList args ds ps := hA0
    clear hval0 hA0
    rw [Try.params9] at hA hval
    obtain ⟨v0, vs0, d0, ds0, p0, q0, rfl, rfl, rfl, h0, t0⟩ := trodAll_cons hA
    obtain ⟨v1, vs1, d1, ds1, p1, q1, rfl, rfl, rfl, h1, t1⟩ := trodAll_cons t0
    obtain ⟨v2, vs2, d2, ds2, p2, q2, rfl, rfl, rfl, h2, t2⟩ := trodAll_cons t1
    obtain ⟨rfl, rfl, rfl⟩ := trodAll_nil t2
    obtain ⟨x0, w0, r0⟩ := open_flatF (n := 64) (ks := [.n .i64]) (b := false) (by kernel_rfl) (by kernel_rfl) (hval 0 3 v0 rfl rfl) h0
    obtain ⟨x1, w1, r1⟩ := open_flatF (n := 64) (ks := [.n .i64]) (b := false) (by kernel_rfl) (by kernel_rfl) (hval 1 3 v1 rfl rfl) h1
    obtain ⟨m2, g2, L2, b2, w2, n2, B2, s2⟩ := open_rows (n := 64) (ks := [.n .i64]) Try.underlying43 (by kernel_rfl) (by kernel_rfl) (by simp) (hval 2 43 v2 rfl rfl) h2
    have R0 := rep_ro_nil W.heap
    have M0 : ∀ (id : Nat) C, (([] : AH))[id]? = some (some C) → C.mut = false := fun id C h => by simp at h
    obtain ⟨R1, M1⟩ := rep_ro_snoc R0 M0 B2 rfl
    refine (fun (l : List At) (hT : (TL_RlogLasts l).sat fun r => r = [.b true]) (hrep : _) (hargs : _) => calls_law (sy := y_RlogLasts) (fuel := 100) (Lp := Lp_RlogLasts_18) o_S9 mixed Try.func9 ish_RlogLasts (by kernel_rfl) lk_RlogLasts_18 (l := l) (T := TL_RlogLasts l) (e_RlogLasts l) hT (φ0 := [L2]) hrep hargs) [.i (x0 0), .i (x1 0), .r m2 g2] ?_ R1
      (all2_cons (r0 _) (all2_cons (r1 _) (all2_cons ((by have := s2 [L2] 0 rfl; rw [n2] at this; exact this)) (all2_nil))))
    have e : TL_RlogLasts [.i (x0 0), .i (x1 0), .r m2 g2] = T_RlogLasts (x0 0) (x1 0) m2 g2 := by kernel_rfl
    exact (congrArg (fun t : Tr (List At) => t.sat fun r => r = [.b true]) e).mpr (vc_RlogLasts (x0 0) (x1 0) m2 g2 (w0 0 _ rfl).1 (w0 0 _ rfl).2 (w1 0 _ rfl).1 (w1 0 _ rfl).2 b2 w2)
theorem over : Rows.rlogLastsRow.holds Try.pinned (OpenSpec.ofChange Rows.rlogLastsSpec) :=
  OpenClaim.holds_of_wide 9 Try.f9 rfl rfl rfl rfl rfl rfl rfl ⟨rfl, rfl, rfl, rfl, rfl⟩ rfl rfl rfl rfl rfl (by kernel_rfl) Try.func9 (by kernel_rfl)
    (of_decide_eq_true (by kernel_rfl)) (by unfold Func.isWrapper; first | (rw [if_pos (by decide +kernel)]; kernel_rfl) | (rw [if_neg (by decide +kernel)]; exact ⟨rfl, rfl⟩))
    (fun os started H enc _ => lifted os started H enc)
end Go.Proofs.Ythpcjcdiaifoiaa.L_RlogLasts
namespace Go.Proofs.Ythpcjcdiaifoiaa
/-- The statement. -/
theorem rlogLasts_holds : Rows.RlogLastsSaid := L_RlogLasts.over
#print axioms rlogLasts_holds
end Go.Proofs.Ythpcjcdiaifoiaa
