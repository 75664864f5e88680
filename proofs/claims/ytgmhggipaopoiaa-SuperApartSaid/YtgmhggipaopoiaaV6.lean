/-
  The plain law of SuperApart.
-/
import Derived.Test.YtgmhggipaopoiaaV0
import Derived.Test.YtgmhggipaopoiaaCrcW
import Derived.Test.YtgmhggipaopoiaaV5
namespace Go.Proofs.Ytgmhggipaopoiaa.G
open Go Go.AM Go.Proofs

section
variable {α : Type} {i : Nat} {c : Bool} {t e : Tr α} {Q : α → Prop}
theorem brT (h : c = true) (ht : t.sat Q) : (Tr.br i c t e).sat Q := by
  obtain ⟨r, h1, h2⟩ := ht
  exact ⟨r, (br_t h).trans h1, h2⟩
theorem brF (h : c = false) (ht : e.sat Q) : (Tr.br i c t e).sat Q := by
  obtain ⟨r, h1, h2⟩ := ht
  exact ⟨r, (br_f h).trans h1, h2⟩
end

theorem line_good {x0 x1 x2 x3 : Int} (hs : sb x0 x1 x2 x3 = true) : r_crcGood_0 (r_sLine_0 x0 x1 x2 x3) (r_sLine_1 x0 x1 x2 x3) (r_sLine_2 x0 x1 x2 x3) (r_sLine_3 x0 x1 x2 x3) (r_sLine_4 x0 x1 x2 x3) (r_sLine_5 x0 x1 x2 x3) (r_sLine_6 x0 x1 x2 x3) (r_sLine_7 x0 x1 x2 x3) = true := by
  simp only [s0, s1, s2, s3, s4, s5, s6, s7, hs, cond_true]
  rw [good_eq _ (by decide) (wu x0) (wu x1) (wu x2) (wu x3) (by decide) (by decide)]
  simp [sealS]

theorem read_good {y0 y1 y2 y3 y4 y5 y6 y7 : Int} (h : r_sRead_4 y0 y1 y2 y3 y4 y5 y6 y7 = true) : r_crcGood_0 y0 y1 y2 y3 y4 y5 y6 y7 = true := by
  have hz : (r_sLine_8 (IntKind.wrap IntKind.i64 y1) (IntKind.wrap IntKind.i64 y2) (IntKind.wrap IntKind.i64 y3) (IntKind.wrap IntKind.i64 y4) != 0) = false ∧ (r_sLine_0 (IntKind.wrap IntKind.i64 y1) (IntKind.wrap IntKind.i64 y2) (IntKind.wrap IntKind.i64 y3) (IntKind.wrap IntKind.i64 y4) = y0 ∧ r_sLine_1 (IntKind.wrap IntKind.i64 y1) (IntKind.wrap IntKind.i64 y2) (IntKind.wrap IntKind.i64 y3) (IntKind.wrap IntKind.i64 y4) = y1 ∧ r_sLine_2 (IntKind.wrap IntKind.i64 y1) (IntKind.wrap IntKind.i64 y2) (IntKind.wrap IntKind.i64 y3) (IntKind.wrap IntKind.i64 y4) = y2 ∧ r_sLine_3 (IntKind.wrap IntKind.i64 y1) (IntKind.wrap IntKind.i64 y2) (IntKind.wrap IntKind.i64 y3) (IntKind.wrap IntKind.i64 y4) = y3 ∧ r_sLine_4 (IntKind.wrap IntKind.i64 y1) (IntKind.wrap IntKind.i64 y2) (IntKind.wrap IntKind.i64 y3) (IntKind.wrap IntKind.i64 y4) = y4 ∧ r_sLine_5 (IntKind.wrap IntKind.i64 y1) (IntKind.wrap IntKind.i64 y2) (IntKind.wrap IntKind.i64 y3) (IntKind.wrap IntKind.i64 y4) = y5 ∧ r_sLine_6 (IntKind.wrap IntKind.i64 y1) (IntKind.wrap IntKind.i64 y2) (IntKind.wrap IntKind.i64 y3) (IntKind.wrap IntKind.i64 y4) = y6 ∧ r_sLine_7 (IntKind.wrap IntKind.i64 y1) (IntKind.wrap IntKind.i64 y2) (IntKind.wrap IntKind.i64 y3) (IntKind.wrap IntKind.i64 y4) = y7) := by
    unfold r_sRead_4 at h
    simp only [sk, cond_true] at h
    cases h8 : (r_sLine_8 (IntKind.wrap IntKind.i64 y1) (IntKind.wrap IntKind.i64 y2) (IntKind.wrap IntKind.i64 y3) (IntKind.wrap IntKind.i64 y4) != 0) with
    | true => rw [h8] at h; simp at h
    | false =>
      refine ⟨rfl, ?_⟩
      rw [h8] at h
      simpa using h
  obtain ⟨h8, e0, e1, e2, e3, e4, e5, e6, e7⟩ := hz
  have hs : sb (IntKind.wrap IntKind.i64 y1) (IntKind.wrap IntKind.i64 y2) (IntKind.wrap IntKind.i64 y3) (IntKind.wrap IntKind.i64 y4) = true := by
    cases hb : sb (IntKind.wrap IntKind.i64 y1) (IntKind.wrap IntKind.i64 y2) (IntKind.wrap IntKind.i64 y3) (IntKind.wrap IntKind.i64 y4) with
    | true => rfl
    | false => rw [s8, hb] at h8; simp at h8
  have := line_good hs
  rw [e0, e1, e2, e3, e4, e5, e6, e7] at this
  exact this

theorem kind_ok {x n : Int} (hn : 0 < n) : ok_kind x n = true := by
  unfold ok_kind
  have : (n != 0) = true := by rw [bne_iff_ne]; omega
  rw [this]
  cases decide (x < 0) <;> rfl

theorem kind_lo {x n : Int} (h0 : -9223372036854775808 ≤ x) (h1 : x ≤ 9223372036854775807) (hn : 0 < n) : 0 ≤ r_kind_0 x n ∧ r_kind_0 x n < n := by
  unfold r_kind_0
  have hb : (n != 0) = true := by rw [bne_iff_ne]; omega
  rw [hb]
  by_cases hx : x < 0
  · simp only [hx, decide_true, cond_true]
    rw [wrap_i64 (x := x + 1) (by omega) (by omega), wrap_i64 (by omega) (by omega)]
    exact ⟨Int.tmod_nonneg n (by omega), Int.tmod_lt_of_pos _ hn⟩
  · simp only [hx, decide_false, cond_true, cond_false]
    exact ⟨Int.tmod_nonneg n (by omega), Int.tmod_lt_of_pos _ hn⟩

theorem line_eq {x0 x1 x2 x3 x4 x5 x6 x7 : Int} (ha : sb x0 x1 x2 x3 = true) (hb : sb x4 x5 x6 x7 = true) :
    ((r_sLine_0 x0 x1 x2 x3 == r_sLine_0 x4 x5 x6 x7 && (r_sLine_1 x0 x1 x2 x3 == r_sLine_1 x4 x5 x6 x7 && (r_sLine_2 x0 x1 x2 x3 == r_sLine_2 x4 x5 x6 x7 && (r_sLine_3 x0 x1 x2 x3 == r_sLine_3 x4 x5 x6 x7 && (r_sLine_4 x0 x1 x2 x3 == r_sLine_4 x4 x5 x6 x7 && (r_sLine_5 x0 x1 x2 x3 == r_sLine_5 x4 x5 x6 x7 && (r_sLine_6 x0 x1 x2 x3 == r_sLine_6 x4 x5 x6 x7 && (r_sLine_7 x0 x1 x2 x3 == r_sLine_7 x4 x5 x6 x7 && true)))))))) == (x0 == x4 && (x1 == x5 && (x2 == x6 && (x3 == x7 && true))))) = true := by
  have ra := ha
  have rb := hb
  simp only [sb, decide_eq_true_eq] at ra rb
  rw [beq_iff_eq, Bool.eq_iff_iff]
  simp only [s0, s1, s2, s3, s4, s5, s6, s7, ha, hb, cond_true, Bool.and_eq_true, beq_iff_eq, and_true, true_and]
  rw [wrap_u64 (x := x0) (by omega) (by omega), wrap_u64 (x := x1) (by omega) (by omega), wrap_u64 (x := x2) (by omega) (by omega), wrap_u64 (x := x3) (by omega) (by omega),
    wrap_u64 (x := x4) (by omega) (by omega), wrap_u64 (x := x5) (by omega) (by omega), wrap_u64 (x := x6) (by omega) (by omega), wrap_u64 (x := x7) (by omega) (by omega)]
  constructor
  · rintro ⟨g0, g1, g2, g3, _⟩
    exact ⟨g0, g1, g2, g3⟩
  · rintro ⟨rfl, rfl, rfl, rfl⟩
    simp

theorem vc_SuperApart (x0 x1 x2 x3 x4 x5 x6 x7 x8 x9 : Int) (h0 : IntKind.min .i64 ≤ x0) (k0 : x0 ≤ IntKind.max .i64) (h1 : IntKind.min .i64 ≤ x1) (k1 : x1 ≤ IntKind.max .i64) (h2 : IntKind.min .i64 ≤ x2) (k2 : x2 ≤ IntKind.max .i64) (h3 : IntKind.min .i64 ≤ x3) (k3 : x3 ≤ IntKind.max .i64) (h4 : IntKind.min .i64 ≤ x4) (k4 : x4 ≤ IntKind.max .i64) (h5 : IntKind.min .i64 ≤ x5) (k5 : x5 ≤ IntKind.max .i64) (h6 : IntKind.min .i64 ≤ x6) (k6 : x6 ≤ IntKind.max .i64) (h7 : IntKind.min .i64 ≤ x7) (k7 : x7 ≤ IntKind.max .i64) (h8 : IntKind.min .i64 ≤ x8) (k8 : x8 ≤ IntKind.max .i64) (h9 : IntKind.min .i64 ≤ x9) (k9 : x9 ≤ IntKind.max .i64) :
    (T_SuperApart x0 x1 x2 x3 x4 x5 x6 x7 x8 x9).sat fun r => r = [.b true] := by
  have h8 : -9223372036854775808 ≤ x8 := h8
  have k8 : x8 ≤ 9223372036854775807 := k8
  have h9 : -9223372036854775808 ≤ x9 := h9
  have k9 : x9 ≤ 9223372036854775807 := k9
  unfold T_SuperApart
  refine brT rfl (brT (sk _ _ _ _) (brT (sk _ _ _ _) ?_))
  cases ha : sb x0 x1 x2 x3 with
  | false => exact brT (by rw [s8, ha]; rfl) ⟨_, rfl, rfl⟩
  | true =>
    refine brF (by rw [s8, ha]; rfl) ?_
    cases hb : sb x4 x5 x6 x7 with
    | false => exact brT (by rw [s8, hb]; rfl) ⟨_, rfl, rfl⟩
    | true =>
      refine brF (by rw [s8, hb]; rfl) ?_
      have hk := kind_lo h8 k8 (n := 64) (by decide)
      have hv := kind_lo h9 k9 (n := 255) (by decide)
      have hw : within (r_kind_0 x8 64) 64 = true := by
        simp only [within, Bool.and_eq_true, decide_eq_true_eq]; omega
      have hJ : Int.toNat (r_kind_0 x8 64) < 64 := by omega
      have ew : IntKind.wrap IntKind.i64 (1 + r_kind_0 x9 255) = 1 + r_kind_0 x9 255 := wrap_i64 (by omega) (by omega)
      have hvr : 0 ≤ IntKind.wrap IntKind.u8 (IntKind.wrap IntKind.i64 (1 + r_kind_0 x9 255)) ∧ IntKind.wrap IntKind.u8 (IntKind.wrap IntKind.i64 (1 + r_kind_0 x9 255)) ≤ 255 := by rw [wrap_u8_mod]; omega
      have hv0 : IntKind.wrap IntKind.u8 (IntKind.wrap IntKind.i64 (1 + r_kind_0 x9 255)) ≠ 0 := by rw [ew, wrap_u8_mod]; omega
      have ra := ha
      simp only [sb, decide_eq_true_eq] at ra
      have a0 : 0 ≤ r_sLine_0 x0 x1 x2 x3 := by rw [s0, ha, cond_true]; decide
      have b0 : r_sLine_0 x0 x1 x2 x3 ≤ 18446744073709551615 := by rw [s0, ha, cond_true]; decide
      have a1 : 0 ≤ r_sLine_1 x0 x1 x2 x3 := by rw [s1, ha, cond_true]; exact wu _
      have b1 : r_sLine_1 x0 x1 x2 x3 ≤ 18446744073709551615 := by rw [s1, ha, cond_true]; rw [wrap_u64_mod]; omega
      have a2 : 0 ≤ r_sLine_2 x0 x1 x2 x3 := by rw [s2, ha, cond_true]; exact wu _
      have b2 : r_sLine_2 x0 x1 x2 x3 ≤ 18446744073709551615 := by rw [s2, ha, cond_true]; rw [wrap_u64_mod]; omega
      have a3 : 0 ≤ r_sLine_3 x0 x1 x2 x3 := by rw [s3, ha, cond_true]; exact wu _
      have b3 : r_sLine_3 x0 x1 x2 x3 ≤ 18446744073709551615 := by rw [s3, ha, cond_true]; rw [wrap_u64_mod]; omega
      have a4 : 0 ≤ r_sLine_4 x0 x1 x2 x3 := by rw [s4, ha, cond_true]; exact wu _
      have b4 : r_sLine_4 x0 x1 x2 x3 ≤ 18446744073709551615 := by rw [s4, ha, cond_true]; rw [wrap_u64_mod]; omega
      have a5 : 0 ≤ r_sLine_5 x0 x1 x2 x3 := by rw [s5, ha, cond_true]; decide
      have b5 : r_sLine_5 x0 x1 x2 x3 ≤ 18446744073709551615 := by rw [s5, ha, cond_true]; decide
      have a6 : 0 ≤ r_sLine_6 x0 x1 x2 x3 := by rw [s6, ha, cond_true]; decide
      have b6 : r_sLine_6 x0 x1 x2 x3 ≤ 18446744073709551615 := by rw [s6, ha, cond_true]; decide
      have hs7 : r_sLine_7 x0 x1 x2 x3 = ((sealN (words7 (r_sLine_0 x0 x1 x2 x3) (r_sLine_1 x0 x1 x2 x3) (r_sLine_2 x0 x1 x2 x3) (r_sLine_3 x0 x1 x2 x3) (r_sLine_4 x0 x1 x2 x3) (r_sLine_5 x0 x1 x2 x3) (r_sLine_6 x0 x1 x2 x3)) : Nat) : Int) := by
        rw [s0, s1, s2, s3, s4, s5, s6, s7, ha]; rfl
      refine brT (kind_ok (by decide)) (brT (kind_ok (by decide)) (brT hw (brT (kind_ok (by decide)) (brT hw (brT (rk _ _ _ _ _ _ _ _) (brT (line_eq ha hb) ⟨_, rfl, congrArg (fun b => [At.b (!b)]) (Bool.eq_false_iff.2 fun hr => ?_)⟩))))))
      exact Bool.false_ne_true ((good_turned (c := SuperApart_c0 x0 x1 x2 x3 x8 x9) a0 a1 a2 a3 a4 a5 a6 b0 b1 b2 b3 b4 b5 b6 hs7 hJ hvr hv0 rfl).symm.trans (read_good hr))
end Go.Proofs.Ytgmhggipaopoiaa.G
