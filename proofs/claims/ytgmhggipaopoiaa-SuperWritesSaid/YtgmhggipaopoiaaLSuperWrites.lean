/-
  The law SuperWrites, whatever its input: it returns true and leaves its arguments as they were.
-/
import Derived.Test.YtgmhggipaopoiaaX1ToVX
import Derived.Test.YtgmhggipaopoiaaAn8ToAnR
import Derived.ProofKit
import Derived.KernelRfl
namespace Go.Proofs.Ytgmhggipaopoiaa.L_SuperWrites
open Go.ChangeShapes Go.WideShapes Go.ChangeAt Go.RowKit Go.AM Go.Proofs.Ytgmhggipaopoiaa.G
theorem own : ownKnob Try.prog.godebug = none := by kernel_rfl
set_option maxHeartbeats 2000000 in
set_option maxRecDepth 100000 in
theorem lifted (os : Os) (started : os.Started) (H : Type) (enc : TypeId × Value → H) :
    ReturnsInHanded {} Try.checked os 9 .any (Rows.superWritesSpec.pre6 enc Try.prog Try.f9 Rows.superWritesRow.domain false) (Rows.superWritesSpec.post enc Try.prog Try.f9 false true false false) := by
  refine law_lifted (C := Try.checked) (tb := 4) own started (by kernel_rfl) Try.func9 (by kernel_rfl) (by kernel_rfl) (by kernel_rfl) (by kernel_rfl) rfl ?_
    (ChangeSpec.witness6 (enc := enc) (C := Try.checked) false ⟨#[], #[.agg #[.int .i64 0, .int .i64 0], .agg #[.int .i64 0, .int .i64 0, .int .i64 0, .int .i64 0, .int .i64 0, .int .i64 0, .int .i64 0, .int .i64 0], .agg #[.int .i64 0, .slice none 0 0]], []⟩ 64 (by kernel_rfl) (by kernel_rfl) (by kernel_rfl) (by kernel_rfl)) ?_
  · intro ds hds
    match ds, hds with
    | [d0, d1, d2], _ => rfl
  · intro W base args ds ps hval0 hA0
    have hval : ∀ (j : Nat) t v, Try.f9.params.toList[j]? = some t → args[j]? = some v → Value.okWide Try.prog W .any base t v := hval0
    have hA : DataW.TrodAll enc Try.prog W 0 (fun _ => true) true Try.f9.params.toList args ds ps := hA0
    clear hval0 hA0
    rw [Try.params9] at hA hval
    obtain ⟨v0, vs0, d0, ds0, p0, q0, rfl, rfl, rfl, h0, t0⟩ := trodAll_cons hA
    obtain ⟨v1, vs1, d1, ds1, p1, q1, rfl, rfl, rfl, h1, t1⟩ := trodAll_cons t0
    obtain ⟨v2, vs2, d2, ds2, p2, q2, rfl, rfl, rfl, h2, t2⟩ := trodAll_cons t1
    obtain ⟨rfl, rfl, rfl⟩ := trodAll_nil t2
    obtain ⟨x0, w0, r0⟩ := open_flatF (n := 64) (ks := [.n .i64, .n .i64]) (b := true) (by kernel_rfl) (by kernel_rfl) (hval 0 58 v0 rfl rfl) h0
    obtain ⟨x1, w1, r1⟩ := open_flatF (n := 64) (ks := [.n .i64, .n .i64, .n .i64, .n .i64, .n .i64, .n .i64, .n .i64, .n .i64]) (b := true) (by kernel_rfl) (by kernel_rfl) (hval 1 39 v1 rfl rfl) h1
    obtain ⟨x2, m2, g2, L2, wx2, b2, w2, n2, B2, s2⟩ := open_pow (n := 64) (ks1 := [.n .i64]) (ms := [.n .i64]) (ts := 53) (by kernel_rfl) (by kernel_rfl) Try.underlying53 (by kernel_rfl) (by kernel_rfl) (by simp) (hval 2 55 v2 rfl rfl) h2
    have R0 := rep_ro_nil W.heap
    have M0 : ∀ (id : Nat) C, (([] : AH))[id]? = some (some C) → C.mut = false := fun id C h => by simp at h
    obtain ⟨R1, M1⟩ := rep_ro_snoc R0 M0 B2 rfl
    refine (fun (l : List At) (hT : (TL_SuperWrites l).sat fun r => r = [.b true]) (hrep : _) (hargs : _) => calls_law (sy := y_SuperWrites) (fuel := 100) (Lp := noLoops) o_X3 mixed Try.func9 ish_SuperWrites (by kernel_rfl) (noLoops_ok _) (l := l) (T := TL_SuperWrites l) (e_SuperWrites l) hT (φ0 := [L2]) hrep hargs) [.i (x0 0), .i (x0 1), .i (x1 0), .i (x1 1), .i (x1 2), .i (x1 3), .i (x1 4), .i (x1 5), .i (x1 6), .i (x1 7), .i (x2 0), .r m2 g2] ?_ R1
      (all2_cons (r0 _) (all2_cons (r1 _) (all2_cons ((by have := s2 [L2] 0 rfl; rw [n2] at this; exact this)) (all2_nil))))
    have e : TL_SuperWrites [.i (x0 0), .i (x0 1), .i (x1 0), .i (x1 1), .i (x1 2), .i (x1 3), .i (x1 4), .i (x1 5), .i (x1 6), .i (x1 7), .i (x2 0), .r m2 g2] = T_SuperWrites (x0 0) (x0 1) (x1 0) (x1 1) (x1 2) (x1 3) (x1 4) (x1 5) (x1 6) (x1 7) (x2 0) m2 g2 := by kernel_rfl
    exact (congrArg (fun t : Tr (List At) => t.sat fun r => r = [.b true]) e).mpr (vc_SuperWrites (x0 0) (x0 1) (x1 0) (x1 1) (x1 2) (x1 3) (x1 4) (x1 5) (x1 6) (x1 7) (x2 0) m2 g2 (w0 0 _ rfl).1 (w0 0 _ rfl).2 (w0 1 _ rfl).1 (w0 1 _ rfl).2 (w1 0 _ rfl).1 (w1 0 _ rfl).2 (w1 1 _ rfl).1 (w1 1 _ rfl).2 (w1 2 _ rfl).1 (w1 2 _ rfl).2 (w1 3 _ rfl).1 (w1 3 _ rfl).2 (w1 4 _ rfl).1 (w1 4 _ rfl).2 (w1 5 _ rfl).1 (w1 5 _ rfl).2 (w1 6 _ rfl).1 (w1 6 _ rfl).2 (w1 7 _ rfl).1 (w1 7 _ rfl).2 (wx2 0 _ rfl).1 (wx2 0 _ rfl).2 b2 w2)
theorem over : Rows.superWritesRow.holds Try.pinned (OpenSpec.ofChange Rows.superWritesSpec) :=
  OpenClaim.holds_of_wide 9 Try.f9 rfl rfl rfl rfl rfl rfl rfl ⟨rfl, rfl, rfl, rfl, rfl⟩ rfl rfl rfl rfl rfl (by kernel_rfl) Try.func9 (by kernel_rfl)
    (of_decide_eq_true (by kernel_rfl)) (by unfold Func.isWrapper; first | (rw [if_pos (by decide +kernel)]; kernel_rfl) | (rw [if_neg (by decide +kernel)]; exact ⟨rfl, rfl⟩))
    (fun os started H enc _ => lifted os started H enc)
end Go.Proofs.Ytgmhggipaopoiaa.L_SuperWrites
namespace Go.Proofs.Ytgmhggipaopoiaa
theorem superWrites_holds : Rows.SuperWritesSaid := L_SuperWrites.over
#print axioms superWrites_holds
end Go.Proofs.Ytgmhggipaopoiaa
