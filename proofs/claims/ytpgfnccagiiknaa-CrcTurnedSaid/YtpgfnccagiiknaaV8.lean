/-
  The plain law of CrcTurned.
-/
import Derived.Test.YtpgfnccagiiknaaCrcW
import Derived.Test.YtpgfnccagiiknaaV0
namespace Go.Proofs.Ytpgfnccagiiknaa.G
open Go Go.AM Go.Proofs

section
variable {α : Type} {i : Nat} {c : Bool} {t e : Tr α} {Q : α → Prop}
theorem brT (h : c = true) (ht : t.sat Q) : (Tr.br i c t e).sat Q := by
  obtain ⟨r, h1, h2⟩ := ht
  exact ⟨r, (br_t h).trans h1, h2⟩
theorem brF (h : c = false) (ht : e.sat Q) : (Tr.br i c t e).sat Q := by
  obtain ⟨r, h1, h2⟩ := ht
  exact ⟨r, (br_f h).trans h1, h2⟩
end

theorem sum_turn {n1 n2 k m J : Nat} {g : Nat → Nat → Int} {v : Int} (e1 : n1 = m) (e2 : n2 = m) (ek : k = 0) (hb : IsBytes m fun j => g j 0) (hJ : J < m) (hv : 0 ≤ v ∧ v ≤ 255) (hk : m < 9223372036854775807) :
    (v = 0 → (r_crcSum_0 n1 (fun (j cc : Nat) => updG (appG (fun _ _ => (0 : Int)) 0 fun (j c : Nat) => g (k + j) c) J 0 (bits BinOp.xor IntKind.u8 (appG (fun _ _ => (0 : Int)) 0 (fun (j c : Nat) => g (k + j) c) J 0) v) (0 + j) cc) == r_crcSum_0 n2 fun (j cc : Nat) => g (k + j) cc) = true) ∧
    (v ≠ 0 → (r_crcSum_0 n1 (fun (j cc : Nat) => updG (appG (fun _ _ => (0 : Int)) 0 fun (j c : Nat) => g (k + j) c) J 0 (bits BinOp.xor IntKind.u8 (appG (fun _ _ => (0 : Int)) 0 (fun (j c : Nat) => g (k + j) c) J 0) v) (0 + j) cc) != r_crcSum_0 n2 fun (j cc : Nat) => g (k + j) cc) = true) := by
  subst e1 ek
  subst e2
  rw [(crcSum_eq (fun (j cc : Nat) => updG (appG (fun _ _ => (0 : Int)) 0 fun (j c : Nat) => g (0 + j) c) J 0 (bits BinOp.xor IntKind.u8 (appG (fun _ _ => (0 : Int)) 0 (fun (j c : Nat) => g (0 + j) c) J 0) v) (0 + j) cc) hk).2, (crcSum_eq (fun (j cc : Nat) => g (0 + j) cc) hk).2]
  have hf : (fun j : Nat => (fun (j cc : Nat) => updG (appG (fun _ _ => (0 : Int)) 0 fun (j c : Nat) => g (0 + j) c) J 0 (bits BinOp.xor IntKind.u8 (appG (fun _ _ => (0 : Int)) 0 (fun (j c : Nat) => g (0 + j) c) J 0) v) (0 + j) cc) j 0) = fun j => if j = J then bits BinOp.xor IntKind.u8 (g J 0) v else g j 0 := by
    funext j
    simp [updG, appG]
  have hg : (fun j : Nat => (fun (j cc : Nat) => g (0 + j) cc) j 0) = fun j => g j 0 := by
    funext j; simp
  rw [hf, hg]
  have hbJ : 0 ≤ g J 0 ∧ g J 0 < 256 := hb J hJ
  have hbJ : 0 ≤ g J 0 ∧ g J 0 ≤ 255 := ⟨hbJ.1, by have := hbJ.2; omega⟩
  constructor
  · intro h0
    subst h0
    have : (fun j => if j = J then bits BinOp.xor IntKind.u8 (g J 0) 0 else g j 0) = fun j => g j 0 := by
      funext j
      by_cases hj : j = J
      · subst hj
        obtain ⟨a, ha⟩ := Int.eq_ofNat_of_zero_le hbJ.1
        rw [if_pos rfl, ha]
        have := u8_xor_nat a 0 (by omega) (by decide)
        simpa using this
      · rw [if_neg hj]
    rw [this, beq_self_eq_true]
  · intro h0
    rw [bne_iff_ne]
    intro he
    have hb2 : IsBytes n2 fun j => if j = J then bits BinOp.xor IntKind.u8 (g J 0) v else g j 0 := fun j hj => by
      show 0 ≤ (if j = J then bits BinOp.xor IntKind.u8 (g J 0) v else g j 0) ∧ (if j = J then bits BinOp.xor IntKind.u8 (g J 0) v else g j 0) < 256
      have := xor_byte_lo hbJ hv
      have h3 := hb j hj
      split
      · omega
      · exact h3
    have s1 := sumBy_nat (f := crcStep) (fun _ h => crcStep_nat h) hb (x := 0) (by decide)
    have s2 := sumBy_nat (f := crcStep) (fun _ h => crcStep_nat h) hb2 (x := 0) (by decide)
    rw [show ((0 : Nat) : Int) = 0 from rfl] at s1 s2
    rw [s1, s2] at he
    have he : crcN 0 n2 (natB fun j => if j = J then bits BinOp.xor IntKind.u8 (g J 0) v else g j 0) = crcN 0 n2 (natB fun j => g j 0) := by omega
    have h4 := crcN_turn (natB_lt hb2) (natB_lt hb) (by decide) hJ (fun j hj => by simp [natB, hj]) he
    simp only [natB, if_true] at h4
    have := xor_byte_lo hbJ hv
    exact xor_ne hbJ hv h0 (by omega)

theorem sum_plain {n1 n2 k m : Nat} {g : Nat → Nat → Int} (e1 : n1 = m) (e2 : n2 = m) (ek : k = 0) :
    (r_crcSum_0 n1 (fun (j cc : Nat) => appG (fun _ _ => (0 : Int)) 0 (fun (j c : Nat) => g (k + j) c) (0 + j) cc) == r_crcSum_0 n2 fun (j cc : Nat) => g (k + j) cc) = true := by
  subst e1 ek
  subst e2
  have : (fun (j cc : Nat) => appG (fun _ _ => (0 : Int)) 0 (fun (j c : Nat) => g (0 + j) c) (0 + j) cc) = fun (j cc : Nat) => g (0 + j) cc := by
    funext j cc; simp [appG]
  rw [this, beq_self_eq_true]

theorem vc_CrcTurned (x0 x1 x2 x3 x4 x5 x6 x7 x8 x9 : Int) (n10 : Nat) (g10 : Nat → Nat → Int) (h0 : IntKind.min .u64 ≤ x0) (k0 : x0 ≤ IntKind.max .u64) (h1 : IntKind.min .u64 ≤ x1) (k1 : x1 ≤ IntKind.max .u64) (h2 : IntKind.min .u64 ≤ x2) (k2 : x2 ≤ IntKind.max .u64) (h3 : IntKind.min .u64 ≤ x3) (k3 : x3 ≤ IntKind.max .u64) (h4 : IntKind.min .u64 ≤ x4) (k4 : x4 ≤ IntKind.max .u64) (h5 : IntKind.min .u64 ≤ x5) (k5 : x5 ≤ IntKind.max .u64) (h6 : IntKind.min .u64 ≤ x6) (k6 : x6 ≤ IntKind.max .u64) (_ : IntKind.min .u64 ≤ x7) (_ : x7 ≤ IntKind.max .u64) (h8 : IntKind.min .i64 ≤ x8) (k8 : x8 ≤ IntKind.max .i64) (_ : IntKind.min .i64 ≤ x9) (_ : x9 ≤ IntKind.max .i64)
    (_b0 : n10 ≤ maxLen) (w0 : ∀ (i c : Nat) (k : SK), i < n10 → [SK.n .u8][c]? = some k → wfS k (g10 i c)) :
    (T_CrcTurned x0 x1 x2 x3 x4 x5 x6 x7 x8 x9 n10 g10).sat fun r => r = [.b true] := by
  obtain ⟨f1, f2, f3⟩ := few_eq n10 n10 g10
  have h0 : 0 ≤ x0 := h0
  have k0 : x0 ≤ 18446744073709551615 := k0
  have h1 : 0 ≤ x1 := h1
  have k1 : x1 ≤ 18446744073709551615 := k1
  have h2 : 0 ≤ x2 := h2
  have k2 : x2 ≤ 18446744073709551615 := k2
  have h3 : 0 ≤ x3 := h3
  have k3 : x3 ≤ 18446744073709551615 := k3
  have h4 : 0 ≤ x4 := h4
  have k4 : x4 ≤ 18446744073709551615 := k4
  have h5 : 0 ≤ x5 := h5
  have k5 : x5 ≤ 18446744073709551615 := k5
  have h6 : 0 ≤ x6 := h6
  have k6 : x6 ≤ 18446744073709551615 := k6
  have a0 : 0 ≤ r_crcSeal_0 x0 x1 x2 x3 x4 x5 x6 := by rw [seal_0]; exact h0
  have b0 : r_crcSeal_0 x0 x1 x2 x3 x4 x5 x6 ≤ 18446744073709551615 := by rw [seal_0]; exact k0
  have a1 : 0 ≤ r_crcSeal_1 x0 x1 x2 x3 x4 x5 x6 := by rw [seal_1]; exact h1
  have b1 : r_crcSeal_1 x0 x1 x2 x3 x4 x5 x6 ≤ 18446744073709551615 := by rw [seal_1]; exact k1
  have a2 : 0 ≤ r_crcSeal_2 x0 x1 x2 x3 x4 x5 x6 := by rw [seal_2]; exact h2
  have b2 : r_crcSeal_2 x0 x1 x2 x3 x4 x5 x6 ≤ 18446744073709551615 := by rw [seal_2]; exact k2
  have a3 : 0 ≤ r_crcSeal_3 x0 x1 x2 x3 x4 x5 x6 := by rw [seal_3]; exact h3
  have b3 : r_crcSeal_3 x0 x1 x2 x3 x4 x5 x6 ≤ 18446744073709551615 := by rw [seal_3]; exact k3
  have a4 : 0 ≤ r_crcSeal_4 x0 x1 x2 x3 x4 x5 x6 := by rw [seal_4]; exact h4
  have b4 : r_crcSeal_4 x0 x1 x2 x3 x4 x5 x6 ≤ 18446744073709551615 := by rw [seal_4]; exact k4
  have a5 : 0 ≤ r_crcSeal_5 x0 x1 x2 x3 x4 x5 x6 := by rw [seal_5]; exact h5
  have b5 : r_crcSeal_5 x0 x1 x2 x3 x4 x5 x6 ≤ 18446744073709551615 := by rw [seal_5]; exact k5
  have a6 : 0 ≤ r_crcSeal_6 x0 x1 x2 x3 x4 x5 x6 := by rw [seal_6]; exact h6
  have b6 : r_crcSeal_6 x0 x1 x2 x3 x4 x5 x6 ≤ 18446744073709551615 := by rw [seal_6]; exact k6
  have hs7 : r_crcSeal_7 x0 x1 x2 x3 x4 x5 x6 = ((sealN (words7 (r_crcSeal_0 x0 x1 x2 x3 x4 x5 x6) (r_crcSeal_1 x0 x1 x2 x3 x4 x5 x6) (r_crcSeal_2 x0 x1 x2 x3 x4 x5 x6) (r_crcSeal_3 x0 x1 x2 x3 x4 x5 x6) (r_crcSeal_4 x0 x1 x2 x3 x4 x5 x6) (r_crcSeal_5 x0 x1 x2 x3 x4 x5 x6) (r_crcSeal_6 x0 x1 x2 x3 x4 x5 x6)) : Nat) : Int) := by
    rw [seal_7 h0 h1 h2 h3 h4 h5 h6, seal_0, seal_1, seal_2, seal_3, seal_4, seal_5, seal_6]
  have h8 : -9223372036854775808 ≤ x8 := h8
  have k8 : x8 ≤ 9223372036854775807 := k8
  have hvr : 0 ≤ IntKind.wrap IntKind.u8 x9 ∧ IntKind.wrap IntKind.u8 x9 ≤ 255 := by rw [wrap_u8_mod]; omega
  have hb := bytes_of (m := min n10 300) w0 (by omega)
  have e1 : 0 + r_few_1 0 n10 n10 g10 = min n10 300 := by rw [f3]; omega
  have hk0 : min n10 300 < 9223372036854775807 := by omega
  have hk1 : 0 + r_few_1 0 n10 n10 g10 < 9223372036854775807 := by omega
  have hk2 : r_few_1 0 n10 n10 g10 < 9223372036854775807 := by omega
  have h28 : decide (0 + r_few_1 0 n10 n10 g10 ≤ 1073741824) = true := by rw [decide_eq_true_eq]; omega
  unfold T_CrcTurned
  refine brT rfl (brT f1 ?_)
  by_cases hneg : x8 < 0
  · refine brT (decide_eq_true hneg) ?_
    have hI : 0 ≤ IntKind.wrap IntKind.i64 (0 - IntKind.wrap IntKind.i64 (x8 + 1)) := by
      rw [wrap_i64 (x := x8 + 1) (by omega) (by omega), wrap_i64 (by omega) (by omega)]
      omega
    have hJ64 : Int.toNat (Int.tmod (IntKind.wrap IntKind.i64 (0 - IntKind.wrap IntKind.i64 (x8 + 1))) 64) < 64 := by have := Int.tmod_lt_of_pos (IntKind.wrap IntKind.i64 (0 - IntKind.wrap IntKind.i64 (x8 + 1))) (show (0 : Int) < 64 by decide); omega
    have w64 : within (Int.tmod (IntKind.wrap IntKind.i64 (0 - IntKind.wrap IntKind.i64 (x8 + 1))) 64) 64 = true := by
      have h1 := Int.tmod_lt_of_pos (IntKind.wrap IntKind.i64 (0 - IntKind.wrap IntKind.i64 (x8 + 1))) (show (0 : Int) < 64 by decide)
      have h2 := Int.tmod_nonneg 64 hI
      simp only [within, Bool.and_eq_true, decide_eq_true_eq]; omega
    refine brT h28 ?_
    by_cases hm : 0 < min n10 300
    · have hmp : (0 : Int) < ((r_few_1 0 n10 n10 g10 : Nat) : Int) := by rw [f3]; omega
      have hJm : Int.toNat (Int.tmod (IntKind.wrap IntKind.i64 (0 - IntKind.wrap IntKind.i64 (x8 + 1))) ((r_few_1 0 n10 n10 g10 : Nat) : Int)) < min n10 300 := by
        have h1 := Int.tmod_lt_of_pos (IntKind.wrap IntKind.i64 (0 - IntKind.wrap IntKind.i64 (x8 + 1))) hmp
        rw [f3] at h1 ⊢
        omega
      have wm : within (Int.tmod (IntKind.wrap IntKind.i64 (0 - IntKind.wrap IntKind.i64 (x8 + 1))) ((r_few_1 0 n10 n10 g10 : Nat) : Int)) (0 + r_few_1 0 n10 n10 g10) = true := by
        have h1 := Int.tmod_lt_of_pos (IntKind.wrap IntKind.i64 (0 - IntKind.wrap IntKind.i64 (x8 + 1))) hmp
        have h2 := Int.tmod_nonneg ((r_few_1 0 n10 n10 g10 : Nat) : Int) hI
        simp only [within, Bool.and_eq_true, decide_eq_true_eq]; omega
      have hne : (((r_few_1 0 n10 n10 g10 : Nat) : Int) != 0) = true := by rw [bne_iff_ne]; omega
      have heq : (((r_few_1 0 n10 n10 g10 : Nat) : Int) == 0) = false := by rw [beq_eq_false_iff_ne]; omega
      refine brT (decide_eq_true hmp) (brT hne (brT hne (brT wm (brT wm (brT (ok_seal _ _ _ _ _ _ _ _) (brT w64 (brT w64 ?_)))))))
      by_cases hv : IntKind.wrap IntKind.u8 x9 = 0
      · exact brT (beq_iff_eq.2 hv) (brT (crcSum_eq _ hk1).1 (brT (crcSum_eq _ hk2).1 ⟨_, rfl, congrArg (fun b => [At.b b]) ((sum_turn e1 f3 f2 hb hJm hvr hk0).1 hv)⟩))
      · exact brF (beq_eq_false_iff_ne.2 hv) (brF heq (brT (crcSum_eq _ hk1).1 (brT (crcSum_eq _ hk2).1 (brT ((sum_turn e1 f3 f2 hb hJm hvr hk0).2 hv) (brT (good_ok _ _ _ _ _ _ _ _) ⟨_, rfl, congrArg (fun b => [At.b (!b)]) (good_turned a0 a1 a2 a3 a4 a5 a6 b0 b1 b2 b3 b4 b5 b6 hs7 hJ64 hvr hv rfl)⟩)))))
    · have hmz : ¬ (0 : Int) < ((r_few_1 0 n10 n10 g10 : Nat) : Int) := by rw [f3]; omega
      have heq : (((r_few_1 0 n10 n10 g10 : Nat) : Int) == 0) = true := by rw [beq_iff_eq, f3]; omega
      refine brF (decide_eq_false hmz) (brT (ok_seal _ _ _ _ _ _ _ _) (brT w64 (brT w64 ?_)))
      by_cases hv : IntKind.wrap IntKind.u8 x9 = 0
      · exact brT (beq_iff_eq.2 hv) (brT (crcSum_eq _ hk1).1 (brT (crcSum_eq _ hk2).1 ⟨_, rfl, congrArg (fun b => [At.b b]) (sum_plain e1 f3 f2)⟩))
      · exact brF (beq_eq_false_iff_ne.2 hv) (brT heq (brT rfl (brT (good_ok _ _ _ _ _ _ _ _) ⟨_, rfl, congrArg (fun b => [At.b (!b)]) (good_turned a0 a1 a2 a3 a4 a5 a6 b0 b1 b2 b3 b4 b5 b6 hs7 hJ64 hvr hv rfl)⟩)))
  · refine brF (decide_eq_false hneg) ?_
    have hI : 0 ≤ x8 := by omega
    have hJ64 : Int.toNat (Int.tmod (x8) 64) < 64 := by have := Int.tmod_lt_of_pos (x8) (show (0 : Int) < 64 by decide); omega
    have w64 : within (Int.tmod (x8) 64) 64 = true := by
      have h1 := Int.tmod_lt_of_pos (x8) (show (0 : Int) < 64 by decide)
      have h2 := Int.tmod_nonneg 64 hI
      simp only [within, Bool.and_eq_true, decide_eq_true_eq]; omega
    refine brT h28 ?_
    by_cases hm : 0 < min n10 300
    · have hmp : (0 : Int) < ((r_few_1 0 n10 n10 g10 : Nat) : Int) := by rw [f3]; omega
      have hJm : Int.toNat (Int.tmod (x8) ((r_few_1 0 n10 n10 g10 : Nat) : Int)) < min n10 300 := by
        have h1 := Int.tmod_lt_of_pos (x8) hmp
        rw [f3] at h1 ⊢
        omega
      have wm : within (Int.tmod (x8) ((r_few_1 0 n10 n10 g10 : Nat) : Int)) (0 + r_few_1 0 n10 n10 g10) = true := by
        have h1 := Int.tmod_lt_of_pos (x8) hmp
        have h2 := Int.tmod_nonneg ((r_few_1 0 n10 n10 g10 : Nat) : Int) hI
        simp only [within, Bool.and_eq_true, decide_eq_true_eq]; omega
      have hne : (((r_few_1 0 n10 n10 g10 : Nat) : Int) != 0) = true := by rw [bne_iff_ne]; omega
      have heq : (((r_few_1 0 n10 n10 g10 : Nat) : Int) == 0) = false := by rw [beq_eq_false_iff_ne]; omega
      refine brT (decide_eq_true hmp) (brT hne (brT hne (brT wm (brT wm (brT (ok_seal _ _ _ _ _ _ _ _) (brT w64 (brT w64 ?_)))))))
      by_cases hv : IntKind.wrap IntKind.u8 x9 = 0
      · exact brT (beq_iff_eq.2 hv) (brT (crcSum_eq _ hk1).1 (brT (crcSum_eq _ hk2).1 ⟨_, rfl, congrArg (fun b => [At.b b]) ((sum_turn e1 f3 f2 hb hJm hvr hk0).1 hv)⟩))
      · exact brF (beq_eq_false_iff_ne.2 hv) (brF heq (brT (crcSum_eq _ hk1).1 (brT (crcSum_eq _ hk2).1 (brT ((sum_turn e1 f3 f2 hb hJm hvr hk0).2 hv) (brT (good_ok _ _ _ _ _ _ _ _) ⟨_, rfl, congrArg (fun b => [At.b (!b)]) (good_turned a0 a1 a2 a3 a4 a5 a6 b0 b1 b2 b3 b4 b5 b6 hs7 hJ64 hvr hv rfl)⟩)))))
    · have hmz : ¬ (0 : Int) < ((r_few_1 0 n10 n10 g10 : Nat) : Int) := by rw [f3]; omega
      have heq : (((r_few_1 0 n10 n10 g10 : Nat) : Int) == 0) = true := by rw [beq_iff_eq, f3]; omega
      refine brF (decide_eq_false hmz) (brT (ok_seal _ _ _ _ _ _ _ _) (brT w64 (brT w64 ?_)))
      by_cases hv : IntKind.wrap IntKind.u8 x9 = 0
      · exact brT (beq_iff_eq.2 hv) (brT (crcSum_eq _ hk1).1 (brT (crcSum_eq _ hk2).1 ⟨_, rfl, congrArg (fun b => [At.b b]) (sum_plain e1 f3 f2)⟩))
      · exact brF (beq_eq_false_iff_ne.2 hv) (brT heq (brT rfl (brT (good_ok _ _ _ _ _ _ _ _) ⟨_, rfl, congrArg (fun b => [At.b (!b)]) (good_turned a0 a1 a2 a3 a4 a5 a6 b0 b1 b2 b3 b4 b5 b6 hs7 hJ64 hvr hv rfl)⟩)))
end Go.Proofs.Ytpgfnccagiiknaa.G
