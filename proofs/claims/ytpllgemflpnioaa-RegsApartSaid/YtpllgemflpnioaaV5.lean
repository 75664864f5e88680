/-
  The plain law of RegsApart.
-/
import Derived.Test.YtpllgemflpnioaaG5
import Derived.Test.YtpllgemflpnioaaV0
namespace Go.Proofs.Ytpllgemflpnioaa.G
open Go Go.AM Go.Proofs

theorem vc_RegsApart (x0 x1 x2 x3 x4 x5 x6 x7 x8 x9 x10 x11 x12 x13 x14 x15 x16 x17 x18 x19 x20 x21 : Int) (h0 : IntKind.min .i64 ≤ x0) (k0 : x0 ≤ IntKind.max .i64) (h1 : IntKind.min .u64 ≤ x1) (k1 : x1 ≤ IntKind.max .u64) (h2 : IntKind.min .u64 ≤ x2) (k2 : x2 ≤ IntKind.max .u64) (h3 : IntKind.min .u64 ≤ x3) (k3 : x3 ≤ IntKind.max .u64) (h4 : IntKind.min .u64 ≤ x4) (k4 : x4 ≤ IntKind.max .u64) (h5 : IntKind.min .u64 ≤ x5) (k5 : x5 ≤ IntKind.max .u64) (h6 : IntKind.min .u64 ≤ x6) (k6 : x6 ≤ IntKind.max .u64) (h7 : IntKind.min .i64 ≤ x7) (k7 : x7 ≤ IntKind.max .i64) (h8 : IntKind.min .i64 ≤ x8) (k8 : x8 ≤ IntKind.max .i64) (h9 : IntKind.min .i64 ≤ x9) (k9 : x9 ≤ IntKind.max .i64) (h10 : IntKind.min .i64 ≤ x10) (k10 : x10 ≤ IntKind.max .i64) (h11 : IntKind.min .i64 ≤ x11) (k11 : x11 ≤ IntKind.max .i64) (h12 : IntKind.min .u64 ≤ x12) (k12 : x12 ≤ IntKind.max .u64) (h13 : IntKind.min .u64 ≤ x13) (k13 : x13 ≤ IntKind.max .u64) (h14 : IntKind.min .u64 ≤ x14) (k14 : x14 ≤ IntKind.max .u64) (h15 : IntKind.min .u64 ≤ x15) (k15 : x15 ≤ IntKind.max .u64) (h16 : IntKind.min .u64 ≤ x16) (k16 : x16 ≤ IntKind.max .u64) (h17 : IntKind.min .u64 ≤ x17) (k17 : x17 ≤ IntKind.max .u64) (h18 : IntKind.min .i64 ≤ x18) (k18 : x18 ≤ IntKind.max .i64) (h19 : IntKind.min .i64 ≤ x19) (k19 : x19 ≤ IntKind.max .i64) (h20 : IntKind.min .i64 ≤ x20) (k20 : x20 ≤ IntKind.max .i64) (h21 : IntKind.min .i64 ≤ x21) (k21 : x21 ≤ IntKind.max .i64) :
    (T_RegsApart x0 x1 x2 x3 x4 x5 x6 x7 x8 x9 x10 x11 x12 x13 x14 x15 x16 x17 x18 x19 x20 x21).sat fun r => r = [.b true] := by
  unfold T_RegsApart
  refine brT rfl ?_
  cases ha : gb x0 x7 x8 x9 x10 with
  | false => exact brT (by rw [g8, ha]; rfl) ⟨_, rfl, rfl⟩
  | true =>
    refine brF (by rw [g8, ha]; rfl) ?_
    cases hb : gb x11 x18 x19 x20 x21 with
    | false => exact brT (by rw [g8, hb]; rfl) ⟨_, rfl, rfl⟩
    | true =>
      refine brF (by rw [g8, hb]; rfl) (brF (by rw [g0, ha]; simp) (brF (by rw [g1, ha]; simp) (brF (by rw [g2, ha]; simp) (brF (by rw [g3, ha]; simp) (brF (by rw [g4, ha]; simp) (brF (by rw [g5, ha]; simp) (brF (by rw [g6, ha]; simp) ⟨_, rfl, congrArg (fun b => [At.b b]) ?_⟩)))))))
      obtain ⟨a1, a2, a3, a4, a5, a6, a7, a8, a9, a10⟩ := gb_lo ha
      obtain ⟨b1, b2, b3, b4, b5, b6, b7, b8, b9, b10⟩ := gb_lo hb
      rw [beq_iff_eq, Bool.eq_iff_iff]
      simp only [g0, g1, g2, g3, g4, g5, g6, g7 ha, g7 hb, ha, hb, cond_true, Bool.and_eq_true, beq_iff_eq, and_true]
      rw [wrap_u64 (x := x0) (by omega) (by omega), wrap_u64 (x := x11) (by omega) (by omega)]
      constructor
      · rintro ⟨e0, e1, e2, e3, e4, e5, e6, e7⟩
        exact ⟨e0, ⟨e1, e2, e3, e4⟩, e5, e6, by omega, by omega, by omega, by omega⟩
      · rintro ⟨e0, ⟨e1, e2, e3, e4⟩, e5, e6, e7, e8, e9, e10⟩
        exact ⟨e0, e1, e2, e3, e4, e5, e6, by omega⟩
end Go.Proofs.Ytpllgemflpnioaa.G
