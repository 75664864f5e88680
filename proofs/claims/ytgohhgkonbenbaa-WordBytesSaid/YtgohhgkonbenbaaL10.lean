/-
  The law WordBytes, whatever its input: it returns true and leaves its arguments as they were.
-/
import Derived.Test.YtgohhgkonbenbaaV10
import Derived.ProofKit
import Derived.KernelRfl
namespace Go.Proofs.Ytgohhgkonbenbaa.L10
open Go.ChangeShapes Go.WideShapes Go.ChangeAt Go.RowKit Go.AM Go.Proofs.Ytgohhgkonbenbaa.G
theorem own : ownKnob Try.prog.godebug = none := by kernel_rfl
set_option maxRecDepth 100000 in
theorem lifted (os : Os) (started : os.Started) (H : Type) (enc : TypeId × Value → H) :
    ReturnsInHanded {} Try.checked os 10 .any (Rows.wordBytesSpec.pre6 enc Try.prog Try.f10 Rows.wordBytesRow.domain false) (Rows.wordBytesSpec.post enc Try.prog Try.f10 false true false false) := by
  refine law_lifted (C := Try.checked) (tb := 4) own started (by kernel_rfl) Try.func10 (by kernel_rfl) (by kernel_rfl) (by kernel_rfl) (by kernel_rfl) rfl ?_
    (ChangeSpec.witness6 (enc := enc) (C := Try.checked) false ⟨#[], #[.agg #[.int .u64 0, .int .u64 0, .int .u64 0, .int .u64 0, .int .u64 0, .int .u64 0, .int .u64 0, .int .u64 0], .agg #[.int .u8 0, .int .u8 0, .int .u8 0, .int .u8 0, .int .u8 0, .int .u8 0, .int .u8 0, .int .u8 0, .int .u8 0, .int .u8 0, .int .u8 0, .int .u8 0, .int .u8 0, .int .u8 0, .int .u8 0, .int .u8 0, .int .u8 0, .int .u8 0, .int .u8 0, .int .u8 0, .int .u8 0, .int .u8 0, .int .u8 0, .int .u8 0, .int .u8 0, .int .u8 0, .int .u8 0, .int .u8 0, .int .u8 0, .int .u8 0, .int .u8 0, .int .u8 0, .int .u8 0, .int .u8 0, .int .u8 0, .int .u8 0, .int .u8 0, .int .u8 0, .int .u8 0, .int .u8 0, .int .u8 0, .int .u8 0, .int .u8 0, .int .u8 0, .int .u8 0, .int .u8 0, .int .u8 0, .int .u8 0, .int .u8 0, .int .u8 0, .int .u8 0, .int .u8 0, .int .u8 0, .int .u8 0, .int .u8 0, .int .u8 0, .int .u8 0, .int .u8 0, .int .u8 0, .int .u8 0, .int .u8 0, .int .u8 0, .int .u8 0, .int .u8 0]], []⟩ 64 (by kernel_rfl) (by kernel_rfl) (by kernel_rfl) (by kernel_rfl)) ?_
  · intro ds hds
    match ds, hds with
    | [d0, d1], _ => rfl
  · intro W base args ds ps hval0 hA0
    have hval : ∀ (j : Nat) t v, Try.f10.params.toList[j]? = some t → args[j]? = some v → Value.okWide Try.prog W .any base t v := hval0
    have hA : DataW.TrodAll enc Try.prog W 0 (fun _ => true) true Try.f10.params.toList args ds ps := hA0
    clear hval0 hA0
    rw [Try.params10] at hA hval
    obtain ⟨v0, vs0, d0, ds0, p0, q0, rfl, rfl, rfl, h0, t0⟩ := trodAll_cons hA
    obtain ⟨v1, vs1, d1, ds1, p1, q1, rfl, rfl, rfl, h1, t1⟩ := trodAll_cons t0
    obtain ⟨rfl, rfl, rfl⟩ := trodAll_nil t1
    obtain ⟨x0, w0, r0⟩ := open_flatF (n := 64) (ks := [.n .u64, .n .u64, .n .u64, .n .u64, .n .u64, .n .u64, .n .u64, .n .u64]) (b := true) (by kernel_rfl) (by kernel_rfl) (hval 0 39 v0 rfl rfl) h0
    obtain ⟨x1, w1, r1⟩ := open_flatF (n := 64) (ks := [.n .u8, .n .u8, .n .u8, .n .u8, .n .u8, .n .u8, .n .u8, .n .u8, .n .u8, .n .u8, .n .u8, .n .u8, .n .u8, .n .u8, .n .u8, .n .u8, .n .u8, .n .u8, .n .u8, .n .u8, .n .u8, .n .u8, .n .u8, .n .u8, .n .u8, .n .u8, .n .u8, .n .u8, .n .u8, .n .u8, .n .u8, .n .u8, .n .u8, .n .u8, .n .u8, .n .u8, .n .u8, .n .u8, .n .u8, .n .u8, .n .u8, .n .u8, .n .u8, .n .u8, .n .u8, .n .u8, .n .u8, .n .u8, .n .u8, .n .u8, .n .u8, .n .u8, .n .u8, .n .u8, .n .u8, .n .u8, .n .u8, .n .u8, .n .u8, .n .u8, .n .u8, .n .u8, .n .u8, .n .u8]) (b := true) (by kernel_rfl) (by kernel_rfl) (hval 1 40 v1 rfl rfl) h1
    refine calls_closed (sy := y10) (fuel := 100) (Lp := noLoops) o21 mixed Try.func10 (noLoops_ok _) (tv := tvb true) (v := .bool true) (all2_cons (r0 _) (all2_cons (r1 _) (all2_nil))) (fun φ u h => h) ?_
    refine cast (congrArg (fun t => Tr.sat t fun r => r = tvb true) (e10 (x0 0) (x0 1) (x0 2) (x0 3) (x0 4) (x0 5) (x0 6) (x0 7) (x1 0) (x1 1) (x1 2) (x1 3) (x1 4) (x1 5) (x1 6) (x1 7) (x1 8) (x1 9) (x1 10) (x1 11) (x1 12) (x1 13) (x1 14) (x1 15) (x1 16) (x1 17) (x1 18) (x1 19) (x1 20) (x1 21) (x1 22) (x1 23) (x1 24) (x1 25) (x1 26) (x1 27) (x1 28) (x1 29) (x1 30) (x1 31) (x1 32) (x1 33) (x1 34) (x1 35) (x1 36) (x1 37) (x1 38) (x1 39) (x1 40) (x1 41) (x1 42) (x1 43) (x1 44) (x1 45) (x1 46) (x1 47) (x1 48) (x1 49) (x1 50) (x1 51) (x1 52) (x1 53) (x1 54) (x1 55) (x1 56) (x1 57) (x1 58) (x1 59) (x1 60) (x1 61) (x1 62) (x1 63)).symm) ?_
    exact vc10 (x0 0) (x0 1) (x0 2) (x0 3) (x0 4) (x0 5) (x0 6) (x0 7) (x1 0) (x1 1) (x1 2) (x1 3) (x1 4) (x1 5) (x1 6) (x1 7) (x1 8) (x1 9) (x1 10) (x1 11) (x1 12) (x1 13) (x1 14) (x1 15) (x1 16) (x1 17) (x1 18) (x1 19) (x1 20) (x1 21) (x1 22) (x1 23) (x1 24) (x1 25) (x1 26) (x1 27) (x1 28) (x1 29) (x1 30) (x1 31) (x1 32) (x1 33) (x1 34) (x1 35) (x1 36) (x1 37) (x1 38) (x1 39) (x1 40) (x1 41) (x1 42) (x1 43) (x1 44) (x1 45) (x1 46) (x1 47) (x1 48) (x1 49) (x1 50) (x1 51) (x1 52) (x1 53) (x1 54) (x1 55) (x1 56) (x1 57) (x1 58) (x1 59) (x1 60) (x1 61) (x1 62) (x1 63) (w0 0 _ rfl).1 (w0 0 _ rfl).2 (w0 1 _ rfl).1 (w0 1 _ rfl).2 (w0 2 _ rfl).1 (w0 2 _ rfl).2 (w0 3 _ rfl).1 (w0 3 _ rfl).2 (w0 4 _ rfl).1 (w0 4 _ rfl).2 (w0 5 _ rfl).1 (w0 5 _ rfl).2 (w0 6 _ rfl).1 (w0 6 _ rfl).2 (w0 7 _ rfl).1 (w0 7 _ rfl).2 (w1 0 _ rfl).1 (w1 0 _ rfl).2 (w1 1 _ rfl).1 (w1 1 _ rfl).2 (w1 2 _ rfl).1 (w1 2 _ rfl).2 (w1 3 _ rfl).1 (w1 3 _ rfl).2 (w1 4 _ rfl).1 (w1 4 _ rfl).2 (w1 5 _ rfl).1 (w1 5 _ rfl).2 (w1 6 _ rfl).1 (w1 6 _ rfl).2 (w1 7 _ rfl).1 (w1 7 _ rfl).2 (w1 8 _ rfl).1 (w1 8 _ rfl).2 (w1 9 _ rfl).1 (w1 9 _ rfl).2 (w1 10 _ rfl).1 (w1 10 _ rfl).2 (w1 11 _ rfl).1 (w1 11 _ rfl).2 (w1 12 _ rfl).1 (w1 12 _ rfl).2 (w1 13 _ rfl).1 (w1 13 _ rfl).2 (w1 14 _ rfl).1 (w1 14 _ rfl).2 (w1 15 _ rfl).1 (w1 15 _ rfl).2 (w1 16 _ rfl).1 (w1 16 _ rfl).2 (w1 17 _ rfl).1 (w1 17 _ rfl).2 (w1 18 _ rfl).1 (w1 18 _ rfl).2 (w1 19 _ rfl).1 (w1 19 _ rfl).2 (w1 20 _ rfl).1 (w1 20 _ rfl).2 (w1 21 _ rfl).1 (w1 21 _ rfl).2 (w1 22 _ rfl).1 (w1 22 _ rfl).2 (w1 23 _ rfl).1 (w1 23 _ rfl).2 (w1 24 _ rfl).1 (w1 24 _ rfl).2 (w1 25 _ rfl).1 (w1 25 _ rfl).2 (w1 26 _ rfl).1 (w1 26 _ rfl).2 (w1 27 _ rfl).1 (w1 27 _ rfl).2 (w1 28 _ rfl).1 (w1 28 _ rfl).2 (w1 29 _ rfl).1 (w1 29 _ rfl).2 (w1 30 _ rfl).1 (w1 30 _ rfl).2 (w1 31 _ rfl).1 (w1 31 _ rfl).2 (w1 32 _ rfl).1 (w1 32 _ rfl).2 (w1 33 _ rfl).1 (w1 33 _ rfl).2 (w1 34 _ rfl).1 (w1 34 _ rfl).2 (w1 35 _ rfl).1 (w1 35 _ rfl).2 (w1 36 _ rfl).1 (w1 36 _ rfl).2 (w1 37 _ rfl).1 (w1 37 _ rfl).2 (w1 38 _ rfl).1 (w1 38 _ rfl).2 (w1 39 _ rfl).1 (w1 39 _ rfl).2 (w1 40 _ rfl).1 (w1 40 _ rfl).2 (w1 41 _ rfl).1 (w1 41 _ rfl).2 (w1 42 _ rfl).1 (w1 42 _ rfl).2 (w1 43 _ rfl).1 (w1 43 _ rfl).2 (w1 44 _ rfl).1 (w1 44 _ rfl).2 (w1 45 _ rfl).1 (w1 45 _ rfl).2 (w1 46 _ rfl).1 (w1 46 _ rfl).2 (w1 47 _ rfl).1 (w1 47 _ rfl).2 (w1 48 _ rfl).1 (w1 48 _ rfl).2 (w1 49 _ rfl).1 (w1 49 _ rfl).2 (w1 50 _ rfl).1 (w1 50 _ rfl).2 (w1 51 _ rfl).1 (w1 51 _ rfl).2 (w1 52 _ rfl).1 (w1 52 _ rfl).2 (w1 53 _ rfl).1 (w1 53 _ rfl).2 (w1 54 _ rfl).1 (w1 54 _ rfl).2 (w1 55 _ rfl).1 (w1 55 _ rfl).2 (w1 56 _ rfl).1 (w1 56 _ rfl).2 (w1 57 _ rfl).1 (w1 57 _ rfl).2 (w1 58 _ rfl).1 (w1 58 _ rfl).2 (w1 59 _ rfl).1 (w1 59 _ rfl).2 (w1 60 _ rfl).1 (w1 60 _ rfl).2 (w1 61 _ rfl).1 (w1 61 _ rfl).2 (w1 62 _ rfl).1 (w1 62 _ rfl).2 (w1 63 _ rfl).1 (w1 63 _ rfl).2
theorem over : Rows.wordBytesRow.holds Try.pinned (OpenSpec.ofChange Rows.wordBytesSpec) :=
  OpenClaim.holds_of_wide 10 Try.f10 rfl rfl rfl rfl rfl rfl rfl ⟨rfl, rfl, rfl, rfl, rfl⟩ rfl rfl rfl rfl rfl (by kernel_rfl) Try.func10 (by kernel_rfl)
    (of_decide_eq_true (by kernel_rfl)) (by unfold Func.isWrapper; first | (rw [if_pos (by decide +kernel)]; kernel_rfl) | (rw [if_neg (by decide +kernel)]; exact ⟨rfl, rfl⟩))
    (fun os started H enc _ => lifted os started H enc)
end Go.Proofs.Ytgohhgkonbenbaa.L10
namespace Go.Proofs.Ytgohhgkonbenbaa
/-- The statement. -/
theorem wordBytes_holds : Rows.WordBytesSaid := L10.over
#print axioms wordBytes_holds
end Go.Proofs.Ytgohhgkonbenbaa
