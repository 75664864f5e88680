/-
  The plain law of IpcWaits.
-/
import Derived.Test.YtepdekambalmhaaG8
namespace Go.Proofs.Ytepdekambalmhaa.G
open Go Go.AM Go.Proofs

theorem rng_of {x0 x1 x2 x3 x4 x5 x6 x7 : Int} (h0 : IntKind.min .u64 ≤ x0) (k0 : x0 ≤ IntKind.max .u64) (h1 : IntKind.min .u64 ≤ x1) (k1 : x1 ≤ IntKind.max .u64) (h2 : IntKind.min .u64 ≤ x2) (k2 : x2 ≤ IntKind.max .u64) (h3 : IntKind.min .u64 ≤ x3) (k3 : x3 ≤ IntKind.max .u64) (h4 : IntKind.min .u64 ≤ x4) (k4 : x4 ≤ IntKind.max .u64) (h5 : IntKind.min .u64 ≤ x5) (k5 : x5 ≤ IntKind.max .u64) (h6 : IntKind.min .u64 ≤ x6) (k6 : x6 ≤ IntKind.max .u64) (h7 : IntKind.min .u64 ≤ x7) (k7 : x7 ≤ IntKind.max .u64) : Rng x0 x1 x2 x3 x4 x5 x6 x7 := by
  have h0 : 0 ≤ x0 := h0
  have k0 : x0 ≤ 18446744073709551615 := k0
  have h1 : 0 ≤ x1 := h1
  have k1 : x1 ≤ 18446744073709551615 := k1
  have h2 : 0 ≤ x2 := h2
  have k2 : x2 ≤ 18446744073709551615 := k2
  have h3 : 0 ≤ x3 := h3
  have k3 : x3 ≤ 18446744073709551615 := k3
  have h4 : 0 ≤ x4 := h4
  have k4 : x4 ≤ 18446744073709551615 := k4
  have h5 : 0 ≤ x5 := h5
  have k5 : x5 ≤ 18446744073709551615 := k5
  have h6 : 0 ≤ x6 := h6
  have k6 : x6 ≤ 18446744073709551615 := k6
  have h7 : 0 ≤ x7 := h7
  have k7 : x7 ≤ 18446744073709551615 := k7
  unfold Rng
  omega

theorem vc_IpcWaits (x0 x1 x2 x3 x4 x5 x6 x7 x8 x9 : Int) (_h0 : IntKind.min .u64 ≤ x0) (_k0 : x0 ≤ IntKind.max .u64) (_h1 : IntKind.min .u64 ≤ x1) (_k1 : x1 ≤ IntKind.max .u64) (_h2 : IntKind.min .u64 ≤ x2) (_k2 : x2 ≤ IntKind.max .u64) (_h3 : IntKind.min .u64 ≤ x3) (_k3 : x3 ≤ IntKind.max .u64) (_h4 : IntKind.min .u64 ≤ x4) (_k4 : x4 ≤ IntKind.max .u64) (_h5 : IntKind.min .u64 ≤ x5) (_k5 : x5 ≤ IntKind.max .u64) (_h6 : IntKind.min .u64 ≤ x6) (_k6 : x6 ≤ IntKind.max .u64) (_h7 : IntKind.min .u64 ≤ x7) (_k7 : x7 ≤ IntKind.max .u64) (_h8 : IntKind.min .i64 ≤ x8) (_k8 : x8 ≤ IntKind.max .i64) (_h9 : IntKind.min .i64 ≤ x9) (_k9 : x9 ≤ IntKind.max .i64) :
    (T_IpcWaits x0 x1 x2 x3 x4 x5 x6 x7 x8 x9).sat fun r => r = [.b true] := by
  have hr : Rng x0 x1 x2 x3 x4 x5 x6 x7 := rng_of _h0 _k0 _h1 _k1 _h2 _k2 _h3 _k3 _h4 _k4 _h5 _k5 _h6 _k6 _h7 _k7
  unfold T_IpcWaits
  simp only [beq_self_eq_true, Bool.and_self]
  exact brT rfl (brT (decide_eq_true hr) (brT (decide_eq_true hr) (brT (decide_eq_true hr) (brT (decide_eq_true hr) (brT rfl (brT rfl (brT rfl (brT rfl (Tr.sat_ok.2 rfl)))))))))
end Go.Proofs.Ytepdekambalmhaa.G
