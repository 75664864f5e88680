/-
  What the loops of the reference's Field and With come to, by recursion on the rounds that are left.
-/
import Derived.Test.YtpllgemflpnioaaB9
import Derived.Test.YtpllgemflpnioaaAnR
namespace Go.Proofs.Ytpllgemflpnioaa.G
open Go Go.AM Go.Proofs

def fieldL : Nat → Int → Int → Int → Int → Int
  | 0, o, _, _, _ => o
  | m + 1, o, i, w, a => fieldL m (bits BinOp.or IntKind.u64 o (IntKind.wrap IntKind.u64 (r_rBit_0 w (IntKind.wrap IntKind.i64 (a + i)) * (2 : Int) ^ shiftN IntKind.u64 i))) (IntKind.wrap IntKind.i64 (i + 1)) w a

def anyL : Nat → Int → Int → Bool
  | 0, _, _ => false
  | m + 1, v, i => (r_rBit_0 v i == 1) || anyL m v (IntKind.wrap IntKind.i64 (i + 1))

def withL : Nat → Int → Int → Int → Int → Int
  | 0, w, _, _, _ => w
  | m + 1, w, i, a, v => withL m (bif r_rBit_0 v i != r_rBit_0 w (IntKind.wrap IntKind.i64 (a + i)) then bits BinOp.xor IntKind.u64 w (IntKind.wrap IntKind.u64 ((1 : Int) * (2 : Int) ^ shiftN IntKind.u64 (IntKind.wrap IntKind.i64 (a + i)))) else w) (IntKind.wrap IntKind.i64 (i + 1)) a v

theorem okBit {x i : Int} (h : 0 ≤ i) : ok_rBit x i = true := by simp [ok_rBit, h]

def O_rField_5 (x0 x1 x2 x3 x4 : Int) : Tr (Ex × List At) :=
  .br 0 (decide (0 ≤ x4 ∧ x4 ≤ 64 ∧ 0 ≤ x1 ∧ x1 ≤ 64 ∧ x2 ≤ 64)) (.ok (.exit 0, [.i (fieldL (x2 - x4).toNat x3 x4 x0 x1)])) .no
def OL_rField_5 (l : List At) : Tr (Ex × List At) := O_rField_5 (aI l 0) (aI l 1) (aI l 2) (aI l 3) (aI l 4)
def μ_rField_5 (l : List At) : Nat := (aI l 2 - aI l 4).toNat

theorem rd_rField_5 : ∀ l r, (OL_rField_5 l).val = some r → RoundA BL_rField_5 OL_rField_5 μ_rField_5 l r := by
  intro l r h
  obtain ⟨hc, h⟩ := guard_val h
  have := val_ok h
  subst this
  simp only [decide_eq_true_eq] at hc
  obtain ⟨c0, c1, c2, c3, c4⟩ := hc
  by_cases hk : aI l 4 < aI l 2
  · have w1 : IntKind.i64.wrap (aI l 1 + aI l 4) = aI l 1 + aI l 4 := wrap_i64 (by omega) (by omega)
    have w2 : IntKind.i64.wrap (aI l 4 + 1) = aI l 4 + 1 := wrap_i64 (by omega) (by omega)
    have e : (aI l 2 - aI l 4).toNat = (aI l 2 - IntKind.i64.wrap (aI l 4 + 1)).toNat + 1 := by omega
    refine .inl ⟨_, [.i (aI l 0), .i (aI l 1), .i (aI l 2), .i (bits BinOp.or IntKind.u64 (aI l 3) (IntKind.wrap IntKind.u64 (r_rBit_0 (aI l 0) (IntKind.wrap IntKind.i64 (aI l 1 + aI l 4)) * (2 : Int) ^ shiftN IntKind.u64 (aI l 4)))), .i (IntKind.wrap IntKind.i64 (aI l 4 + 1))],
      (br_t (by simpa using hk)).trans ((br_t (okBit (by omega))).trans ((br_t (by simpa using c0)).trans rfl)), AtsEq.refl _, ?_, ?_⟩
    · show (aI l 2 - IntKind.i64.wrap (aI l 4 + 1)).toNat < (aI l 2 - aI l 4).toNat
      omega
    · refine (br_t (g := 0) ?_).trans ?_
      · show decide (0 ≤ IntKind.i64.wrap (aI l 4 + 1) ∧ IntKind.i64.wrap (aI l 4 + 1) ≤ 64 ∧ 0 ≤ aI l 1 ∧ aI l 1 ≤ 64 ∧ aI l 2 ≤ 64) = true
        simp only [decide_eq_true_eq]; omega
      · rw [e]
        rfl
  · refine .inr ⟨.exit 0, _, by simp, br_f (by simpa using hk), rfl, ?_⟩
    have e : (aI l 2 - aI l 4).toNat = 0 := by omega
    rw [e]
    exact AtsEq.refl _

def O_rWith_4 (x0 x1 x2 x3 x4 : Int) : Tr (Ex × List At) :=
  .br 0 (decide (0 ≤ x4 ∧ x4 ≤ 64)) (.br 0 (anyL (64 - x4).toNat x3 x4) (.ok (.ret, [.i 0, .i 2])) (.ok (.exit 0, [.i x0, .i x1, .i x2, .i x3]))) .no
def OL_rWith_4 (l : List At) : Tr (Ex × List At) := O_rWith_4 (aI l 0) (aI l 1) (aI l 2) (aI l 3) (aI l 4)
def μ_rWith_4 (l : List At) : Nat := (64 - aI l 4).toNat

theorem rd_rWith_4 : ∀ l r, (OL_rWith_4 l).val = some r → RoundS BL_rWith_4 OL_rWith_4 μ_rWith_4 l r := by
  intro l r h
  obtain ⟨hc, h⟩ := guard_val h
  simp only [decide_eq_true_eq] at hc
  obtain ⟨c0, c1⟩ := hc
  unfold RoundS BL_rWith_4 B_rWith_4
  refine brD (fun hk => ?_) (fun hk => ?_)
  · have w2 : IntKind.i64.wrap (aI l 4 + 1) = aI l 4 + 1 := wrap_i64 (by omega) (by omega)
    have e : (64 - aI l 4).toNat = (64 - (aI l 4 + 1)).toNat + 1 := by omega
    rw [e, anyL, w2] at h
    rw [w2]
    refine brT (okBit c0) (brC (fun hb => ?_) (fun hb => ?_))
    · rw [hb, Bool.true_or] at h
      have := val_ok h
      subst this
      exact out_ (by simp) rfl (AtsEq.refl _)
    · rw [hb, Bool.false_or] at h
      refine on_ _ r (AtsEq.refl _) ?_ ?_ rfl (AtsEq.refl _)
      · show (64 - (aI l 4 + 1)).toNat < (64 - aI l 4).toNat
        omega
      · refine (br_t (g := 0) ?_).trans h
        show decide (0 ≤ aI l 4 + 1 ∧ aI l 4 + 1 ≤ 64) = true
        simp only [decide_eq_true_eq]; omega
  · have e : (64 - aI l 4).toNat = 0 := by omega
    rw [e] at h
    have := val_ok h
    subst this
    exact out_ (by simp) rfl (AtsEq.refl _)

def O_rWith_9 (x0 x1 x2 x3 x4 : Int) : Tr (Ex × List At) :=
  .br 0 (decide (0 ≤ x4 ∧ x4 ≤ 64 ∧ 0 ≤ x1 ∧ x1 ≤ 64 ∧ x2 ≤ 64)) (.ok (.exit 2, [.i (withL (x2 - x4).toNat x0 x4 x1 x3)])) .no
def OL_rWith_9 (l : List At) : Tr (Ex × List At) := O_rWith_9 (aI l 0) (aI l 1) (aI l 2) (aI l 3) (aI l 4)
def μ_rWith_9 (l : List At) : Nat := (aI l 2 - aI l 4).toNat

theorem rd_rWith_9 : ∀ l r, (OL_rWith_9 l).val = some r → RoundA BL_rWith_9 OL_rWith_9 μ_rWith_9 l r := by
  intro l r h
  obtain ⟨hc, h⟩ := guard_val h
  have := val_ok h
  subst this
  simp only [decide_eq_true_eq] at hc
  obtain ⟨c0, c1, c2, c3, c4⟩ := hc
  by_cases hk : aI l 4 < aI l 2
  · have w1 : IntKind.i64.wrap (aI l 1 + aI l 4) = aI l 1 + aI l 4 := wrap_i64 (by omega) (by omega)
    have w2 : IntKind.i64.wrap (aI l 4 + 1) = aI l 4 + 1 := wrap_i64 (by omega) (by omega)
    have e : (aI l 2 - aI l 4).toNat = (aI l 2 - IntKind.i64.wrap (aI l 4 + 1)).toNat + 1 := by omega
    have h6 : 0 ≤ IntKind.i64.wrap (aI l 1 + aI l 4) := by omega
    refine .inl ⟨[.i (bif r_rBit_0 (aI l 3) (aI l 4) != r_rBit_0 (aI l 0) (IntKind.wrap IntKind.i64 (aI l 1 + aI l 4)) then bits BinOp.xor IntKind.u64 (aI l 0) (IntKind.wrap IntKind.u64 ((1 : Int) * (2 : Int) ^ shiftN IntKind.u64 (IntKind.wrap IntKind.i64 (aI l 1 + aI l 4)))) else aI l 0), .i (aI l 1), .i (aI l 2), .i (aI l 3), .i (IntKind.wrap IntKind.i64 (aI l 4 + 1))], _, ?_, AtsEq.refl _, ?_, ?_⟩
    · refine (br_t (by simpa using hk)).trans ((br_t (okBit c0)).trans ((br_t (okBit h6)).trans ?_))
      cases hb : (r_rBit_0 (aI l 3) (aI l 4) != r_rBit_0 (aI l 0) (IntKind.wrap IntKind.i64 (aI l 1 + aI l 4))) with
      | true => exact (br_t (g := 38) rfl).trans ((br_t (by simpa using h6)).trans rfl)
      | false => exact (br_f (g := 38) rfl).trans rfl
    · show (aI l 2 - IntKind.i64.wrap (aI l 4 + 1)).toNat < (aI l 2 - aI l 4).toNat
      omega
    · refine (br_t (g := 0) ?_).trans ?_
      · show decide (0 ≤ IntKind.i64.wrap (aI l 4 + 1) ∧ IntKind.i64.wrap (aI l 4 + 1) ≤ 64 ∧ 0 ≤ aI l 1 ∧ aI l 1 ≤ 64 ∧ aI l 2 ≤ 64) = true
        simp only [decide_eq_true_eq]; omega
      · rw [e]
        rfl
  · refine .inr ⟨.exit 2, _, by simp, br_f (by simpa using hk), rfl, ?_⟩
    have e : (aI l 2 - aI l 4).toNat = 0 := by omega
    rw [e]
    exact AtsEq.refl _
end Go.Proofs.Ytpllgemflpnioaa.G
