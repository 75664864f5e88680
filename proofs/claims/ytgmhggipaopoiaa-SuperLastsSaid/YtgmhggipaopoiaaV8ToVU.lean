/-
  Best, in plain words.
-/
import Derived.Test.YtgmhggipaopoiaaNvV1ToV7
import Derived.KernelRfl
import Derived.Test.YtgmhggipaopoiaaAn8ToAnR
section
namespace Go.Proofs.Ytgmhggipaopoiaa.G
open Go Go.AM Go.Proofs

theorem best_eq (x0 x1 x2 x3 x4 x5 x6 x7 x8 x9 x10 x11 x12 x13 x14 x15 : Int) : ok_sBest x0 x1 x2 x3 x4 x5 x6 x7 x8 x9 x10 x11 x12 x13 x14 x15 = true ∧ r_sBest_5 x0 x1 x2 x3 x4 x5 x6 x7 x8 x9 x10 x11 x12 x13 x14 x15 = (r_sRead_4 x0 x1 x2 x3 x4 x5 x6 x7 || r_sRead_4 x8 x9 x10 x11 x12 x13 x14 x15) ∧ r_sBest_4 x0 x1 x2 x3 x4 x5 x6 x7 x8 x9 x10 x11 x12 x13 x14 x15 = (bif (r_sRead_4 x8 x9 x10 x11 x12 x13 x14 x15 && (!r_sRead_4 x0 x1 x2 x3 x4 x5 x6 x7 || decide (r_sRead_0 x8 x9 x10 x11 x12 x13 x14 x15 > r_sRead_0 x0 x1 x2 x3 x4 x5 x6 x7))) then 1 else 0) ∧ r_sBest_0 x0 x1 x2 x3 x4 x5 x6 x7 x8 x9 x10 x11 x12 x13 x14 x15 = (bif (r_sRead_4 x8 x9 x10 x11 x12 x13 x14 x15 && (!r_sRead_4 x0 x1 x2 x3 x4 x5 x6 x7 || decide (r_sRead_0 x8 x9 x10 x11 x12 x13 x14 x15 > r_sRead_0 x0 x1 x2 x3 x4 x5 x6 x7))) then r_sRead_0 x8 x9 x10 x11 x12 x13 x14 x15 else bif r_sRead_4 x0 x1 x2 x3 x4 x5 x6 x7 then r_sRead_0 x0 x1 x2 x3 x4 x5 x6 x7 else 0) ∧ r_sBest_1 x0 x1 x2 x3 x4 x5 x6 x7 x8 x9 x10 x11 x12 x13 x14 x15 = (bif (r_sRead_4 x8 x9 x10 x11 x12 x13 x14 x15 && (!r_sRead_4 x0 x1 x2 x3 x4 x5 x6 x7 || decide (r_sRead_0 x8 x9 x10 x11 x12 x13 x14 x15 > r_sRead_0 x0 x1 x2 x3 x4 x5 x6 x7))) then r_sRead_1 x8 x9 x10 x11 x12 x13 x14 x15 else bif r_sRead_4 x0 x1 x2 x3 x4 x5 x6 x7 then r_sRead_1 x0 x1 x2 x3 x4 x5 x6 x7 else 0) ∧ r_sBest_2 x0 x1 x2 x3 x4 x5 x6 x7 x8 x9 x10 x11 x12 x13 x14 x15 = (bif (r_sRead_4 x8 x9 x10 x11 x12 x13 x14 x15 && (!r_sRead_4 x0 x1 x2 x3 x4 x5 x6 x7 || decide (r_sRead_0 x8 x9 x10 x11 x12 x13 x14 x15 > r_sRead_0 x0 x1 x2 x3 x4 x5 x6 x7))) then r_sRead_2 x8 x9 x10 x11 x12 x13 x14 x15 else bif r_sRead_4 x0 x1 x2 x3 x4 x5 x6 x7 then r_sRead_2 x0 x1 x2 x3 x4 x5 x6 x7 else 0) ∧ r_sBest_3 x0 x1 x2 x3 x4 x5 x6 x7 x8 x9 x10 x11 x12 x13 x14 x15 = (bif (r_sRead_4 x8 x9 x10 x11 x12 x13 x14 x15 && (!r_sRead_4 x0 x1 x2 x3 x4 x5 x6 x7 || decide (r_sRead_0 x8 x9 x10 x11 x12 x13 x14 x15 > r_sRead_0 x0 x1 x2 x3 x4 x5 x6 x7))) then r_sRead_3 x8 x9 x10 x11 x12 x13 x14 x15 else bif r_sRead_4 x0 x1 x2 x3 x4 x5 x6 x7 then r_sRead_3 x0 x1 x2 x3 x4 x5 x6 x7 else 0) := by
  refine ⟨?_, ?_, ?_, ?_, ?_, ?_, ?_⟩
  · unfold ok_sBest; simp only [rk, cond_true]
    cases r_sRead_4 x0 x1 x2 x3 x4 x5 x6 x7 <;> cases r_sRead_4 x8 x9 x10 x11 x12 x13 x14 x15 <;> first | rfl | (simp)
  · unfold r_sBest_5; simp only [rk, cond_true]
    cases r_sRead_4 x0 x1 x2 x3 x4 x5 x6 x7 <;> cases r_sRead_4 x8 x9 x10 x11 x12 x13 x14 x15 <;> first | rfl | (simp) | (simp; rfl)
  · unfold r_sBest_4; simp only [rk, cond_true]
    cases r_sRead_4 x0 x1 x2 x3 x4 x5 x6 x7 <;> cases r_sRead_4 x8 x9 x10 x11 x12 x13 x14 x15 <;> first | rfl | (simp) | (simp; rfl)
  · unfold r_sBest_0; simp only [rk, cond_true]
    cases r_sRead_4 x0 x1 x2 x3 x4 x5 x6 x7 <;> cases r_sRead_4 x8 x9 x10 x11 x12 x13 x14 x15 <;> first | rfl | (simp) | (simp; rfl)
  · unfold r_sBest_1; simp only [rk, cond_true]
    cases r_sRead_4 x0 x1 x2 x3 x4 x5 x6 x7 <;> cases r_sRead_4 x8 x9 x10 x11 x12 x13 x14 x15 <;> first | rfl | (simp) | (simp; rfl)
  · unfold r_sBest_2; simp only [rk, cond_true]
    cases r_sRead_4 x0 x1 x2 x3 x4 x5 x6 x7 <;> cases r_sRead_4 x8 x9 x10 x11 x12 x13 x14 x15 <;> first | rfl | (simp) | (simp; rfl)
  · unfold r_sBest_3; simp only [rk, cond_true]
    cases r_sRead_4 x0 x1 x2 x3 x4 x5 x6 x7 <;> cases r_sRead_4 x8 x9 x10 x11 x12 x13 x14 x15 <;> first | rfl | (simp) | (simp; rfl)
end Go.Proofs.Ytgmhggipaopoiaa.G
end

/-
  What is now is what is sure, with the stores: whatever is done.
-/
section
namespace Go.Proofs.Ytgmhggipaopoiaa.G
open Go Go.AM Go.Proofs

theorem stM_coh {m : Mem} {i w v K : Int} (h : m.Coh) (ok : m.Ok K) : (m.stM i w v).Coh := by
  intro j hj
  rw [stM_n] at hj
  unfold Mem.stM
  cases hb : m.bad i w with
  | true => exact h j hj
  | false => cases m.po with
    | true => exact h j hj
    | false =>
      obtain ⟨h0, h1, h2, h3⟩ := bad_no hb
      show Coh (updR m.g i.toNat (stR (m.g i.toNat) w.toNat v) j) (updR m.h i.toNat (stH (m.h i.toNat) (m.g i.toNat 16).toNat w v) j)
      by_cases hji : j = i.toNat
      · subst hji
        rw [updR_self, updR_self]
        exact coh_st (h _ hj) (ok.2.2.2.2 _ hj).1.1 ⟨h2, h3⟩
      · rw [updR_ne hji, updR_ne hji]; exact h j hj

theorem flM_coh {m : Mem} {c i : Int} (h : m.Coh) : (m.flM c i).Coh := by
  intro j hj
  rw [flM_n] at hj
  unfold Mem.flM
  cases hb : m.bad i c with
  | true => exact h j hj
  | false => cases m.po with
    | true => exact h j hj
    | false =>
      show Coh (updR m.g i.toNat (flR (m.g i.toNat) c.toNat) j) (m.h j)
      by_cases hji : j = i.toNat
      · subst hji
        rw [updR_self]
        exact coh_fl (h _ hj)
      · rw [updR_ne hji]; exact h j hj

theorem feM_coh {m : Mem} {c K : Int} (h : m.Coh) (ok : m.Ok K) : (m.feM c).Coh := by
  intro j hj
  rw [feM_n] at hj
  unfold Mem.feM
  cases hb : corB c with
  | true => exact h j hj
  | false => cases m.po with
    | true => exact h j hj
    | false =>
      have hc := corB_no hb
      show Coh (feG m.n m.g m.h (17 + c.toNat) 0 j) (feH m.n m.g m.h (17 + c.toNat) 0 j)
      unfold feG feH
      by_cases hp : 0 ≤ j ∧ j < m.n ∧ m.g j (17 + c.toNat) > 0
      · rw [if_pos hp, if_pos hp]
        have := (ok.2.2.2.2 j hj).1.2.2.1 (17 + c.toNat) (by omega) (by omega)
        exact coh_rowS (h j hj) (by omega)
      · rw [if_neg hp, if_neg hp]; exact h j hj

theorem evM_coh {m : Mem} {i x K : Int} (h : m.Coh) (ok : m.Ok K) : (m.evM i x).Coh := by
  intro j hj
  rw [evM_n] at hj
  unfold Mem.evM
  cases hb : m.ebad i x with
  | true => exact h j hj
  | false => cases m.off with
    | true => exact h j hj
    | false =>
      obtain ⟨h0, h1, h2⟩ := ebad_no hb
      show Coh (updR m.g i.toNat (rowS (m.g i.toNat) (m.h i.toNat) (evK (m.g i.toNat) x)) j) (updR m.h i.toNat (hS (m.h i.toNat) (evK (m.g i.toNat) x)) j)
      by_cases hji : j = i.toNat
      · subst hji
        rw [updR_self, updR_self]
        exact coh_rowS (h _ hj) (evK_le (ok.2.2.2.2 _ hj).1.1 h2)
      · rw [updR_ne hji, updR_ne hji]; exact h j hj

theorem crM_coh {m : Mem} {q : Nat → Int} {kn : Nat} (h : m.Coh) : (m.crM q kn).Coh := by
  intro j hj
  have hj : j < m.n := hj
  show Coh (crG m.n m.g m.h q kn 0 j) (m.h j)
  unfold crG
  by_cases hp : 0 ≤ j ∧ j < m.n ∧ m.g j 16 > 0
  · rw [if_pos hp]; exact coh_crR
  · rw [if_neg hp]; exact h j hj

theorem newM_coh (n : Nat) : (newM n).Coh := fun _ _ _ _ => rfl

/-- Behind a crash nothing is unsure. -/
theorem crM_cnt {m : Mem} {q : Nat → Int} {kn : Nat} {K : Int} (ok : m.Ok K) {j : Nat} (hj : j < m.n) : (m.crM q kn).g j 16 = 0 := by
  show crG m.n m.g m.h q kn 0 j 16 = 0
  unfold crG
  have := (ok.2.2.2.2 j hj).1.1
  by_cases hp : 0 ≤ j ∧ j < m.n ∧ m.g j 16 > 0
  · rw [if_pos hp]; rfl
  · rw [if_neg hp]; omega

theorem coh_zero {r hr : Nat → Int} (h : Coh r hr) (h0 : r 16 = 0) (c : Nat) (hc : c < 8) : r c = r (8 + c) := by
  rw [h c hc, h0]; rfl
end Go.Proofs.Ytgmhggipaopoiaa.G
end

/-
  What Find comes to, in plain words.
-/
section
namespace Go.Proofs.Ytgmhggipaopoiaa.G
open Go Go.AM Go.Proofs

theorem crM_idle {m : Mem} {q : Nat → Int} {kn j : Nat} (h : m.g j 16 = 0) : (m.crM q kn).g j = m.g j := by
  show crG m.n m.g m.h q kn 0 j = _
  unfold crG
  rw [if_neg (fun hh => by omega)]

/-- A line as Read tells it. -/
def rdB (r : Nat → Int) : Bool := r_sRead_4 (r 0) (r 1) (r 2) (r 3) (r 4) (r 5) (r 6) (r 7)
def rdG (r : Nat → Int) : Int := r_sRead_0 (r 0) (r 1) (r 2) (r 3) (r 4) (r 5) (r 6) (r 7)
def rdR (r : Nat → Int) : Int := r_sRead_1 (r 0) (r 1) (r 2) (r 3) (r 4) (r 5) (r 6) (r 7)
def rdS (r : Nat → Int) : Int := r_sRead_2 (r 0) (r 1) (r 2) (r 3) (r 4) (r 5) (r 6) (r 7)
def rdC (r : Nat → Int) : Int := r_sRead_3 (r 0) (r 1) (r 2) (r 3) (r 4) (r 5) (r 6) (r 7)
theorem rd_congr {α : Type} {f : Int → Int → Int → Int → Int → Int → Int → Int → α} {r s : Nat → Int} (h : ∀ c, c < 8 → r c = s c) : f (r 0) (r 1) (r 2) (r 3) (r 4) (r 5) (r 6) (r 7) = f (s 0) (s 1) (s 2) (s 3) (s 4) (s 5) (s 6) (s 7) := by
  rw [h 0 (by decide), h 1 (by decide), h 2 (by decide), h 3 (by decide), h 4 (by decide), h 5 (by decide), h 6 (by decide), h 7 (by decide)]

/-- The second one counts. -/
def bw (a b : Nat → Int) : Bool := rdB b && (!rdB a || decide (rdG b > rdG a))

theorem on16_eq {α : Type} {f : Int → Int → Int → Int → Int → Int → Int → Int → Int → Int → Int → Int → Int → Int → Int → Int → α} {m : Mem} {a b : Nat → Int} (h : m.on) (hn : m.n = 64) (ha : ∀ c, c < 8 → m.g 0 c = a c) (hb : ∀ c, c < 8 → m.g 1 c = b c) :
    on16 f m = f (a 0) (a 1) (a 2) (a 3) (a 4) (a 5) (a 6) (a 7) (b 0) (b 1) (b 2) (b 3) (b 4) (b 5) (b 6) (b 7) := by
  have e0 : ∀ c, c < 8 → m.ldW 0 c = a c := fun c hc => (ldW_on h ⟨by decide, by rw [hn]; decide⟩).trans (ha c hc)
  have e1 : ∀ c, c < 8 → m.ldW 1 c = b c := fun c hc => (ldW_on h ⟨by decide, by rw [hn]; decide⟩).trans (hb c hc)
  unfold on16
  rw [e0 0 (by decide), e0 1 (by decide), e0 2 (by decide), e0 3 (by decide), e0 4 (by decide), e0 5 (by decide), e0 6 (by decide), e0 7 (by decide), e1 0 (by decide), e1 1 (by decide), e1 2 (by decide), e1 3 (by decide), e1 4 (by decide), e1 5 (by decide), e1 6 (by decide), e1 7 (by decide)]

/-- Find, where the lines 0 and 1 have 'a' and 'b'. -/
theorem find_law {m : Mem} {a b : Nat → Int} (h : m.on) (hn : m.n = 64) (ha : ∀ c, c < 8 → m.g 0 c = a c) (hb : ∀ c, c < 8 → m.g 1 c = b c) :
    on16 ok_sBest m = true ∧ fdC m = (bif rdB a || rdB b then 0 else 20) ∧ fdI r_sBest_0 m = (bif bw a b then rdG b else bif rdB a then rdG a else 0) ∧ fdI r_sBest_1 m = (bif bw a b then rdR b else bif rdB a then rdR a else 0) ∧ fdI r_sBest_2 m = (bif bw a b then rdS b else bif rdB a then rdS a else 0) ∧
      fdI r_sBest_3 m = (bif bw a b then rdC b else bif rdB a then rdC a else 0) ∧ fdI r_sBest_4 m = (bif bw a b then 1 else 0) := by
  obtain ⟨q, q5, q4, q0, q1, q2, q3⟩ := best_eq (a 0) (a 1) (a 2) (a 3) (a 4) (a 5) (a 6) (a 7) (b 0) (b 1) (b 2) (b 3) (b 4) (b 5) (b 6) (b 7)
  have l0 : m.ldC 0 = 0 := ldC_on h ⟨by decide, by rw [hn]; decide⟩
  have l1 : m.ldC 1 = 0 := ldC_on h ⟨by decide, by rw [hn]; decide⟩
  have hC : fdC m = (bif rdB a || rdB b then 0 else 20) := by
    unfold fdC
    rw [l0, l1, on16_eq h hn ha hb, q5]
    show (bif !(rdB a || rdB b) then (20 : Int) else 0) = _
    cases rdB a || rdB b <;> rfl
  have hI : ∀ (f : Int → Int → Int → Int → Int → Int → Int → Int → Int → Int → Int → Int → Int → Int → Int → Int → Int) (x y : Int),
      f (a 0) (a 1) (a 2) (a 3) (a 4) (a 5) (a 6) (a 7) (b 0) (b 1) (b 2) (b 3) (b 4) (b 5) (b 6) (b 7) = (bif bw a b then x else bif rdB a then y else 0) → fdI f m = (bif bw a b then x else bif rdB a then y else 0) := fun f x y e => by
    unfold fdI
    rw [hC, on16_eq h hn ha hb, e]
    unfold bw
    cases rdB a <;> cases rdB b <;> simp
  refine ⟨(on16_eq h hn ha hb).trans q, hC, hI _ _ _ q0, hI _ _ _ q1, hI _ _ _ q2, hI _ _ _ q3, ?_⟩
  have := hI r_sBest_4 1 0 (q4.trans (by show (bif bw a b then (1 : Int) else 0) = _; cases bw a b <;> cases rdB a <;> rfl))
  rw [this]
  cases bw a b <;> cases rdB a <;> rfl

/-- What was written is read. -/
theorem slW_rd {x0 x1 x2 x3 : Int} {r : Nat → Int} (hs : sb x0 x1 x2 x3 = true) (hr : ∀ c, c < 8 → r c = slW x0 x1 x2 x3 c) : rdB r = true ∧ rdG r = x0 ∧ rdR r = x1 ∧ rdS r = x2 ∧ rdC r = x3 := by
  obtain ⟨q4, q0, q1, q2, q3⟩ := read_line hs
  exact ⟨(rd_congr hr).trans q4, (rd_congr hr).trans q0, (rd_congr hr).trans q1, (rd_congr hr).trans q2, (rd_congr hr).trans q3⟩

theorem wrA_eq {w : Nat → Int} {c : Int} {m : Mem} {core slot : Int} (hc : c = 0) (hs : slot = 0 ∨ slot = 1) : wrA w c m core slot = wrM w m core slot := by
  have : badW slot c = false := by
    unfold badW
    rcases hs with rfl | rfl <;> subst hc <;> rfl
  unfold wrA
  rw [this]
  rfl
end Go.Proofs.Ytgmhggipaopoiaa.G
end

/-
  Write, whenever the power goes off.
-/
section
namespace Go.Proofs.Ytgmhggipaopoiaa.G
open Go Go.AM Go.Proofs

/-- The stores of a write: the last word's nought, then the words. -/
def ST (w : Nat → Int) (m : Nat) : Int := if m = 0 then 7 else if m = 1 then 0 else if m % 2 = 0 then ((m / 2 - 1 : Nat) : Int) else w (m / 2 - 1)

theorem ST_w (w : Nat → Int) (k : Nat) : ST w ((k + 1) * 2) = k ∧ ST w ((k + 1) * 2 + 1) = w k := by
  unfold ST
  rw [if_neg (by omega), if_neg (by omega), if_pos (by omega), if_neg (by omega), if_neg (by omega), if_neg (by omega), show (k + 1) * 2 / 2 - 1 = k by omega, show ((k + 1) * 2 + 1) / 2 - 1 = k by omega]
  exact ⟨rfl, rfl⟩

theorem apF_ST {s w : Nat → Int} : ∀ (k : Nat), k ≤ 8 → ∀ c, c < 8 → apF s (ST w) 0 (k + 1) c = if c < k then w c else if c = 7 then 0 else s c
  | 0, _, c, _ => by
    rw [apF_succ]
    show (if c = (ST w ((0 + 0) * 2)).toNat then ST w ((0 + 0) * 2 + 1) else s c) = _
    rw [if_neg (Nat.not_lt_zero c)]
    rfl
  | k + 1, hk, c, hc => by
    rw [apF_succ]
    show (if c = (ST w ((0 + (k + 1)) * 2)).toNat then ST w ((0 + (k + 1)) * 2 + 1) else apF s (ST w) 0 (k + 1) c) = _
    rw [Nat.zero_add, (ST_w w k).1, (ST_w w k).2, Int.toNat_natCast, apF_ST k (by omega) c hc]
    by_cases hck : c = k
    · subst hck
      rw [if_pos rfl, if_pos (Nat.lt_succ_self _)]
    · rw [if_neg hck]
      by_cases hlt : c < k
      · rw [if_pos hlt, if_pos (by omega)]
      · rw [if_neg hlt, if_neg (show ¬ c < k + 1 by omega)]

/-- The line 's' has 'j' of the stores, none of them sure; the other lines are as in 'M0'. -/
structure FzInv (M0 : Mem) (s : Nat) (w : Nat → Int) (j : Nat) (K : Int) (M : Mem) : Prop where
  n : M.n = 64
  ok : M.Ok K
  cnt : M.g s 16 = j
  sur : ∀ c, c < 8 → M.g s (8 + c) = M0.g s (8 + c)
  st : ∀ k, k < j → M.h s (k * 2) = ST w (k * 2) ∧ M.h s (k * 2 + 1) = ST w (k * 2 + 1)
  coh : Coh (M.g s) (M.h s)
  other : ∀ i, i ≠ s → M.g i = M0.g i ∧ M.h i = M0.h i

theorem FzInv.mono {M0 M : Mem} {s j : Nat} {w : Nat → Int} {K K' : Int} (h : FzInv M0 s w j K M) (hK : K ≤ K') : FzInv M0 s w j K' M := ⟨h.n, h.ok.mono hK, h.cnt, h.sur, h.st, h.coh, h.other⟩

theorem FzInv.stp {M0 M : Mem} {s j : Nat} {w : Nat → Int} {K : Int} (h : FzInv M0 s w j K M) : FzInv M0 s w j (K + 1) M.stp := ⟨h.n, stp_ok h.ok, h.cnt, h.sur, h.st, h.coh, h.other⟩

theorem fz_step {M0 M : Mem} {s j : Nat} {w : Nat → Int} {K : Int} {wd v : Int} (h : FzInv M0 s w j K M) (hs : s < 64) (hwd : 0 ≤ wd ∧ wd < 8) (h1 : ST w (j * 2) = wd) (h2 : ST w (j * 2 + 1) = v) (hK : K < 1000000) :
    (M.stC (s : Int) wd = 0 ∧ FzInv M0 s w (j + 1) (K + 1) (M.stM (s : Int) wd v)) ∨ (M.stC (s : Int) wd ≠ 0 ∧ FzInv M0 s w j (K + 1) (M.stM (s : Int) wd v)) := by
  have hb : M.bad (s : Int) wd = false := bad_of ⟨by omega, by rw [h.n]; omega, hwd.1, hwd.2⟩
  have es : (s : Int).toNat = s := Int.toNat_natCast s
  have hok := stM_ok (i := (s : Int)) (w := wd) (v := v) h.ok hK
  unfold Mem.stC
  rw [hb]
  cases hp : M.po with
  | true =>
    have e : M.stM (s : Int) wd v = M.stp := by unfold Mem.stM; rw [hb, hp]; rfl
    rw [e]
    exact .inr ⟨by show M.cod ≠ 0; rw [po_cod4 hp]; decide, h.stp⟩
  | false =>
    have e : M.stM (s : Int) wd v = M.stp.wit (updR M.g s (stR (M.g s) wd.toNat v)) (updR M.h s (stH (M.h s) (M.g s 16).toNat wd v)) := by unfold Mem.stM; rw [hb, hp, es]; rfl
    refine .inl ⟨po_cod hp, ?_⟩
    have hc : (M.g s 16).toNat = j := by rw [h.cnt, Int.toNat_natCast]
    have eg : (M.stM (s : Int) wd v).g = updR M.g s (stR (M.g s) wd.toNat v) := by rw [e]; rfl
    have eh : (M.stM (s : Int) wd v).h = updR M.h s (stH (M.h s) j wd v) := by rw [e, ← hc]; rfl
    refine ⟨by rw [stM_n]; exact h.n, hok, ?_, fun c hc' => ?_, fun k hk => ?_, ?_, fun i hi => ?_⟩
    · rw [eg, updR_self]
      have : stR (M.g s) wd.toNat v 16 = M.g s 16 + 1 := if_pos rfl
      rw [this, h.cnt]; omega
    · rw [eg, updR_self]
      unfold stR
      rw [if_neg (by omega), if_neg (by omega)]
      exact h.sur c hc'
    · rw [eh, updR_self]
      unfold stH
      by_cases hkj : k = j
      · subst hkj
        rw [if_pos rfl, if_neg (by omega), if_pos rfl, h1, h2]
        exact ⟨rfl, rfl⟩
      · rw [if_neg (by omega), if_neg (by omega), if_neg (by omega), if_neg (by omega)]
        exact h.st k (by omega)
    · rw [eg, eh, updR_self, updR_self, ← hc]
      exact coh_st h.coh (h.ok.2.2.2.2 s (by rw [h.n]; exact hs)).1.1 hwd
    · rw [eg, eh, updR_ne hi, updR_ne hi]
      exact h.other i hi

theorem fz_all {M0 : Mem} {s : Nat} {w : Nat → Int} (hs : s < 64) : ∀ (k i : Nat) (M : Mem) (K : Int), FzInv M0 s w (i + 1) K M → i + k = 8 → K + k ≤ 900000 →
    ((stL w (s : Int) k i M).2 = 0 ∧ FzInv M0 s w 9 (K + k) (stL w (s : Int) k i M).1) ∨ ((stL w (s : Int) k i M).2 ≠ 0 ∧ ∃ j, j ≤ 9 ∧ FzInv M0 s w j (K + k) (stL w (s : Int) k i M).1)
  | 0, i, M, K, h, hik, _ => by
    obtain rfl : i = 8 := by omega
    exact .inl ⟨rfl, h.mono (by omega)⟩
  | k + 1, i, M, K, h, hik, hK => by
    rw [stL]
    rcases fz_step (wd := (i : Int)) (v := w i) h hs ⟨by omega, by omega⟩ (ST_w w i).1 (ST_w w i).2 (by omega) with ⟨c, f⟩ | ⟨c, f⟩
    · rw [if_pos c]
      have := fz_all hs k (i + 1) _ (K + 1) f (by omega) (by omega)
      rw [show K + ((k + 1 : Nat) : Int) = K + 1 + k by omega]
      exact this
    · rw [if_neg c]
      exact .inr ⟨c, i + 1, by omega, f.mono (by omega)⟩

/-- What was written whole. -/
structure Whole (M0 : Mem) (s : Nat) (w : Nat → Int) (K : Int) (M : Mem) : Prop where
  n : M.n = 64
  ok : M.Ok K
  cnt : M.g s 16 = 0
  coh : Coh (M.g s) (M.h s)
  now : ∀ c, c < 8 → M.g s c = w c
  other : ∀ i, i < 64 → i ≠ s → M.g i = M0.g i ∧ M.h i = M0.h i

theorem wrM_any {M0 : Mem} {s : Nat} {core K : Int} {w : Nat → Int} (hn : M0.n = 64) (hok : M0.Ok K) (hK : K ≤ 800000) (hcoh : Coh (M0.g s) (M0.h s)) (hs : s < 64) (hcore : 0 ≤ core ∧ core < 8) (hcnt : ∀ j, j < 64 → M0.g j 16 = 0) :
    ((wrM w M0 core (s : Int)).2 = 0 ∧ Whole M0 s w (K + 11) (wrM w M0 core (s : Int)).1) ∨ ((wrM w M0 core (s : Int)).2 ≠ 0 ∧ ∃ j, j ≤ 9 ∧ FzInv M0 s w j (K + 11) (wrM w M0 core (s : Int)).1) := by
  have es : (s : Int).toNat = s := Int.toNat_natCast s
  have inv0 : FzInv M0 s w 0 K M0 := ⟨hn, hok, hcnt s hs, fun _ _ => rfl, fun k hk => absurd hk (Nat.not_lt_zero _), hcoh, fun _ _ => ⟨rfl, rfl⟩⟩
  unfold wrM
  rcases fz_step (wd := 7) (v := 0) inv0 hs ⟨by decide, by decide⟩ rfl rfl (by omega) with ⟨c, f⟩ | ⟨c, f⟩
  · rw [if_neg (fun hh => hh c)]
    rcases fz_all hs 8 0 _ (K + 1) f (by decide) (by omega) with ⟨c2, f2⟩ | ⟨c2, j, hj, f2⟩
    · rw [if_neg (fun hh => hh c2)]
      generalize (stL w (s : Int) 8 0 (M0.stM (s : Int) 7 0)).1 = M at *
      have f2 : FzInv M0 s w 9 (K + 9) M := f2.mono (by omega)
      have hb1 : M.bad (s : Int) core = false := bad_of ⟨by omega, by rw [f2.n]; omega, hcore.1, hcore.2⟩
      have sc : M.stC (s : Int) core = M.cod := by unfold Mem.stC; rw [hb1]; rfl
      rw [sc]
      cases hp : M.po with
      | true =>
        have e1 : M.flM core (s : Int) = M.stp := by unfold Mem.flM; rw [hb1, hp]; rfl
        have c4 : M.cod ≠ 0 := by rw [po_cod4 hp]; decide
        rw [if_pos c4, e1]
        exact .inr ⟨c4, 9, by decide, f2.stp.mono (by omega)⟩
      | false =>
        have c0 : ¬ M.cod ≠ 0 := by rw [po_cod hp]; decide
        rw [if_neg c0]
        have e1 : M.flM core (s : Int) = M.stp.wit (updR M.g s (flR (M.g s) core.toNat)) M.h := by unfold Mem.flM; rw [hb1, hp, es]; rfl
        have k1 : (M.flM core (s : Int)).Ok (K + 10) := (flM_ok f2.ok).mono (by omega)
        have g1 : (M.flM core (s : Int)).g = updR M.g s (flR (M.g s) core.toNat) := by rw [e1]; rfl
        have h1 : (M.flM core (s : Int)).h = M.h := by rw [e1]; rfl
        have n1 : (M.flM core (s : Int)).n = 64 := flM_n.trans f2.n
        generalize M.flM core (s : Int) = M1 at *
        have gs : M1.g s = flR (M.g s) core.toNat := by rw [g1, updR_self]
        have f3 : FzInv M0 s w 9 (K + 10) M1 := ⟨n1, k1, by rw [gs, flR_lo (by omega)]; exact f2.cnt, fun c hc => by rw [gs, flR_lo (by omega)]; exact f2.sur c hc, fun k hk => by rw [h1]; exact f2.st k hk, by rw [gs, h1]; exact coh_fl f2.coh, fun i hi => by rw [g1, h1, updR_ne hi]; exact f2.other i hi⟩
        have fl1 : M1.g s (17 + core.toNat) = 9 := by
          have a : flR (M.g s) core.toNat (17 + core.toNat) = M.g s 16 := if_pos rfl
          rw [gs, a, f2.cnt]; rfl
        have hcb := corB_of hcore
        have fc : M1.feC core = M1.cod := by unfold Mem.feC; rw [hcb]; rfl
        rw [fc]
        cases hp1 : M1.po with
        | true =>
          have e2 : M1.feM core = M1.stp := by unfold Mem.feM; rw [hcb, hp1]; rfl
          rw [e2]
          exact .inr ⟨by show M1.cod ≠ 0; rw [po_cod4 hp1]; decide, 9, by decide, f3.stp.mono (by omega)⟩
        | false =>
          have e2 : M1.feM core = M1.stp.wit (feG M1.n M1.g M1.h (17 + core.toNat) 0) (feH M1.n M1.g M1.h (17 + core.toNat) 0) := by unfold Mem.feM; rw [hcb, hp1]; rfl
          have k2 : (M1.feM core).Ok (K + 11) := (feM_ok k1).mono (by omega)
          have eg2 : (M1.feM core).g s = rowS (M1.g s) (M1.h s) 9 := by
            rw [e2]
            show feG M1.n M1.g M1.h (17 + core.toNat) 0 s = _
            unfold feG
            rw [fl1, if_pos ⟨Nat.zero_le _, by omega, by decide⟩]
            rfl
          have eh2 : (M1.feM core).h s = hS (M1.h s) 9 := by
            rw [e2]
            show feH M1.n M1.g M1.h (17 + core.toNat) 0 s = _
            unfold feH
            rw [fl1, if_pos ⟨Nat.zero_le _, by omega, by decide⟩]
            rfl
          have oth : ∀ i, i < 64 → i ≠ s → (M1.feM core).g i = M0.g i ∧ (M1.feM core).h i = M0.h i := fun i hi his => by
            obtain ⟨a1, a2⟩ := f3.other i his
            have := feM_idle (c := core) (k1.2.2.2.2 i (by rw [n1]; exact hi)).1 (by rw [a1]; exact hcnt i hi)
            rw [a1, a2] at this
            exact this
          refine .inl ⟨po_cod hp1, feM_n.trans n1, k2, by rw [eg2, rowS16, f3.cnt]; rfl, by rw [eg2, eh2]; exact coh_rowS f3.coh (by rw [f3.cnt]; decide), fun c hc => ?_, oth⟩
          rw [eg2, rowS_now hc, f3.coh c hc, f3.cnt]
          have hst : apF (sur (M1.g s)) (M1.h s) 0 9 c = apF (sur (M1.g s)) (ST w) 0 9 c := apF_pt 9 0 _ _ _ _ rfl fun k _ hk => f3.st k (by omega)
          show apF (sur (M1.g s)) (M1.h s) 0 9 c = w c
          rw [hst, apF_ST 8 (by decide) c hc, if_pos hc]
    · rw [if_pos c2]
      exact .inr ⟨c2, j, hj, f2.mono (by omega)⟩
  · rw [if_pos c]
    exact .inr ⟨c, 0, by decide, f.mono (by omega)⟩

/-- Behind a crash the line has some first stores. -/
theorem fz_crash {M0 M : Mem} {s j : Nat} {w : Nat → Int} {K : Int} {q : Nat → Int} {kn : Nat} (h : FzInv M0 s w j K M) (hs : s < 64) : ∃ k, k ≤ j ∧ ∀ c, c < 8 → (M.crM q kn).g s c = apF (sur (M0.g s)) (ST w) 0 k c := by
  have hap : ∀ k, k ≤ j → ∀ c, c < 8 → apF (sur (M.g s)) (M.h s) 0 k c = apF (sur (M0.g s)) (ST w) 0 k c := fun k hk c hc => apF_pt k 0 _ _ _ _ (h.sur c hc) fun i _ hi => h.st i (by omega)
  have hcn : (M.g s 16).toNat = j := by rw [h.cnt, Int.toNat_natCast]
  show ∃ k, k ≤ j ∧ ∀ c, c < 8 → crG M.n M.g M.h q kn 0 s c = _
  unfold crG
  by_cases hp : 0 ≤ s ∧ s < M.n ∧ M.g s 16 > 0
  · rw [if_pos hp]
    have hle : crK q kn (cntU M.g 0 (s - 0)) (M.g s 16) ≤ j := by
      unfold crK
      have := Int.emod_nonneg (kv q kn (cntU M.g 0 (s - 0))) (show M.g s 16 + 1 ≠ 0 by omega)
      have := Int.emod_lt_of_pos (kv q kn (cntU M.g 0 (s - 0))) (show 0 < M.g s 16 + 1 by omega)
      omega
    exact ⟨_, hle, fun c hc => by rw [crR_now hc]; exact hap _ hle c hc⟩
  · rw [if_neg hp]
    have : j = 0 := by
      have := h.n
      have := h.cnt
      omega
    subst this
    exact ⟨0, Nat.le_refl _, fun c hc => by rw [h.coh c hc, hcn]; exact hap 0 (Nat.le_refl _) c hc⟩
end Go.Proofs.Ytgmhggipaopoiaa.G
end

/-
  The plain law of SuperLasts.
-/
section
namespace Go.Proofs.Ytgmhggipaopoiaa.G
open Go Go.AM Go.Proofs

/-- What is read as a superblock is that one's line. -/
theorem read_of {y0 y1 y2 y3 y4 y5 y6 y7 : Int} (h : r_sRead_4 y0 y1 y2 y3 y4 y5 y6 y7 = true) : sb (IntKind.wrap .i64 y1) (IntKind.wrap .i64 y2) (IntKind.wrap .i64 y3) (IntKind.wrap .i64 y4) = true ∧ r_sLine_0 (IntKind.wrap .i64 y1) (IntKind.wrap .i64 y2) (IntKind.wrap .i64 y3) (IntKind.wrap .i64 y4) = y0 ∧ r_sLine_1 (IntKind.wrap .i64 y1) (IntKind.wrap .i64 y2) (IntKind.wrap .i64 y3) (IntKind.wrap .i64 y4) = y1 ∧ r_sLine_2 (IntKind.wrap .i64 y1) (IntKind.wrap .i64 y2) (IntKind.wrap .i64 y3) (IntKind.wrap .i64 y4) = y2 ∧ r_sLine_3 (IntKind.wrap .i64 y1) (IntKind.wrap .i64 y2) (IntKind.wrap .i64 y3) (IntKind.wrap .i64 y4) = y3 ∧ r_sLine_4 (IntKind.wrap .i64 y1) (IntKind.wrap .i64 y2) (IntKind.wrap .i64 y3) (IntKind.wrap .i64 y4) = y4 ∧ r_sLine_5 (IntKind.wrap .i64 y1) (IntKind.wrap .i64 y2) (IntKind.wrap .i64 y3) (IntKind.wrap .i64 y4) = y5 ∧ r_sLine_6 (IntKind.wrap .i64 y1) (IntKind.wrap .i64 y2) (IntKind.wrap .i64 y3) (IntKind.wrap .i64 y4) = y6 ∧ r_sLine_7 (IntKind.wrap .i64 y1) (IntKind.wrap .i64 y2) (IntKind.wrap .i64 y3) (IntKind.wrap .i64 y4) = y7 := by
  have hz : (r_sLine_8 (IntKind.wrap .i64 y1) (IntKind.wrap .i64 y2) (IntKind.wrap .i64 y3) (IntKind.wrap .i64 y4) != 0) = false ∧ (r_sLine_0 (IntKind.wrap .i64 y1) (IntKind.wrap .i64 y2) (IntKind.wrap .i64 y3) (IntKind.wrap .i64 y4) = y0 ∧ r_sLine_1 (IntKind.wrap .i64 y1) (IntKind.wrap .i64 y2) (IntKind.wrap .i64 y3) (IntKind.wrap .i64 y4) = y1 ∧ r_sLine_2 (IntKind.wrap .i64 y1) (IntKind.wrap .i64 y2) (IntKind.wrap .i64 y3) (IntKind.wrap .i64 y4) = y2 ∧ r_sLine_3 (IntKind.wrap .i64 y1) (IntKind.wrap .i64 y2) (IntKind.wrap .i64 y3) (IntKind.wrap .i64 y4) = y3 ∧ r_sLine_4 (IntKind.wrap .i64 y1) (IntKind.wrap .i64 y2) (IntKind.wrap .i64 y3) (IntKind.wrap .i64 y4) = y4 ∧ r_sLine_5 (IntKind.wrap .i64 y1) (IntKind.wrap .i64 y2) (IntKind.wrap .i64 y3) (IntKind.wrap .i64 y4) = y5 ∧ r_sLine_6 (IntKind.wrap .i64 y1) (IntKind.wrap .i64 y2) (IntKind.wrap .i64 y3) (IntKind.wrap .i64 y4) = y6 ∧ r_sLine_7 (IntKind.wrap .i64 y1) (IntKind.wrap .i64 y2) (IntKind.wrap .i64 y3) (IntKind.wrap .i64 y4) = y7) := by
    unfold r_sRead_4 at h
    simp only [sk, cond_true] at h
    cases h8 : (r_sLine_8 (IntKind.wrap .i64 y1) (IntKind.wrap .i64 y2) (IntKind.wrap .i64 y3) (IntKind.wrap .i64 y4) != 0) with
    | true => rw [h8] at h; simp at h
    | false =>
      refine ⟨rfl, ?_⟩
      rw [h8] at h
      simpa using h
  obtain ⟨h8, e⟩ := hz
  refine ⟨?_, e⟩
  cases hb : sb (IntKind.wrap .i64 y1) (IntKind.wrap .i64 y2) (IntKind.wrap .i64 y3) (IntKind.wrap .i64 y4) with
  | true => rfl
  | false => rw [s8, hb] at h8; simp at h8

theorem read_only {r : Nat → Int} (h : rdB r = true) : sb (IntKind.wrap .i64 (r 1)) (IntKind.wrap .i64 (r 2)) (IntKind.wrap .i64 (r 3)) (IntKind.wrap .i64 (r 4)) = true ∧ ∀ k, k < 8 → r k = slW (IntKind.wrap .i64 (r 1)) (IntKind.wrap .i64 (r 2)) (IntKind.wrap .i64 (r 3)) (IntKind.wrap .i64 (r 4)) k := by
  obtain ⟨hs, e0, e1, e2, e3, e4, e5, e6, e7⟩ := read_of h
  refine ⟨hs, fun k hk => ?_⟩
  match k, hk with
  | 0, _ => exact e0.symm
  | 1, _ => exact e1.symm
  | 2, _ => exact e2.symm
  | 3, _ => exact e3.symm
  | 4, _ => exact e4.symm
  | 5, _ => exact e5.symm
  | 6, _ => exact e6.symm
  | 7, _ => exact e7.symm

/-- A line that was written in part, and is read as one, was written whole. -/
theorem part_whole {x0 x1 x2 x3 : Int} {r s : Nat → Int} {k : Nat} (hs : sb x0 x1 x2 x3 = true) (hz : ∀ c, c < 8 → s c = 0) (hk : k ≤ 9) (hr : ∀ c, c < 8 → r c = apF s (ST (slW x0 x1 x2 x3)) 0 k c) (h : rdB r = true) : ∀ c, c < 8 → r c = slW x0 x1 x2 x3 c := by
  obtain ⟨hs', he⟩ := read_only h
  have hr' : ∀ c, c < 8 → r c = if c + 1 < k then slW x0 x1 x2 x3 c else 0 := fun c hc => by
    rw [hr c hc]
    cases k with
    | zero => rw [if_neg (by omega)]; exact hz c hc
    | succ k =>
      rw [apF_ST k (by omega) c hc]
      by_cases h1 : c < k
      · rw [if_pos h1, if_pos (by omega)]
      · rw [if_neg h1, if_neg (show ¬ c + 1 < k + 1 by omega), hz c hc]
        split <;> rfl
  have hx := hs
  simp only [sb, decide_eq_true_eq] at hx
  have hy := hs'
  simp only [sb, decide_eq_true_eq] at hy
  have h5 : 5 < k := by
    rcases Nat.lt_or_ge 5 k with h5 | h5
    · exact h5
    · have := hr' 4 (by decide)
      rw [if_neg (by omega)] at this
      rw [this] at hy
      have hw : IntKind.wrap .i64 0 = 0 := rfl
      rw [hw] at hy
      omega
  have w1 : slW x0 x1 x2 x3 1 = x0 := by
    show r_sLine_1 x0 x1 x2 x3 = x0
    rw [s1, hs, cond_true, IntKind.wrap_u64]; omega
  have w2 : slW x0 x1 x2 x3 2 = x1 := by
    show r_sLine_2 x0 x1 x2 x3 = x1
    rw [s2, hs, cond_true, IntKind.wrap_u64]; omega
  have w3 : slW x0 x1 x2 x3 3 = x2 := by
    show r_sLine_3 x0 x1 x2 x3 = x2
    rw [s3, hs, cond_true, IntKind.wrap_u64]; omega
  have w4 : slW x0 x1 x2 x3 4 = x3 := by
    show r_sLine_4 x0 x1 x2 x3 = x3
    rw [s4, hs, cond_true, IntKind.wrap_u64]; omega
  have r1 := hr' 1 (by decide)
  have r2 := hr' 2 (by decide)
  have r3 := hr' 3 (by decide)
  have r4 := hr' 4 (by decide)
  rw [if_pos (by omega)] at r1 r2 r3 r4
  rw [w1] at r1
  rw [w2] at r2
  rw [w3] at r3
  rw [w4] at r4
  rw [r1, r2, r3, r4, wrap_i64 (by omega) (by omega), wrap_i64 (by omega) (by omega), wrap_i64 (by omega) (by omega), wrap_i64 (by omega) (by omega)] at he
  exact he
end Go.Proofs.Ytgmhggipaopoiaa.G
end

/-
  What functions of the seat compute, printed by a program from the explorer.
-/
section
namespace Go.Proofs.Ytgmhggipaopoiaa.G
open Go Go.AM Go.Proofs
/-! ### SuperLasts -/

noncomputable def ish_SuperLasts : FSh := ⟨[.v true [.k (.n .i64), .k (.n .i64), .k (.n .i64), .k (.n .i64), .k (.n .i64), .k (.n .i64), .k (.n .i64), .k (.n .i64)], .v true [.k (.n .i64), .vw 0 1]], [.rows [.n .i64] false]⟩
noncomputable def osh_SuperLasts : FSh := ⟨[.v false [.k .b]], [.no]⟩
noncomputable def SuperLasts_c0 (x0 : Int) (x1 : Int) (x2 : Int) (x3 : Int) (x4 : Int) (x5 : Int) (x6 : Int) (x7 : Int) (x8 : Int) (n9 : Nat) (g9 : Nat → Nat → Int) : Bool := Go.Proofs.Ytgmhggipaopoiaa.G.fdI Go.Proofs.Ytgmhggipaopoiaa.G.r_sBest_0 (Go.Proofs.Ytgmhggipaopoiaa.G.Mem.crM (Go.Proofs.Ytgmhggipaopoiaa.G.wrA (Go.Proofs.Ytgmhggipaopoiaa.G.slW x4 x5 x6 x7) (Go.Proofs.Ytgmhggipaopoiaa.G.r_sLine_8 x4 x5 x6 x7) (Go.Proofs.Ytgmhggipaopoiaa.G.Mem.fuM (Go.Proofs.Ytgmhggipaopoiaa.G.wrA (Go.Proofs.Ytgmhggipaopoiaa.G.slW x0 x1 x2 x3) (Go.Proofs.Ytgmhggipaopoiaa.G.r_sLine_8 x0 x1 x2 x3) (Go.Proofs.Ytgmhggipaopoiaa.G.newM (64 : Nat)) (0 : Int) (0 : Int)).fst (Go.Proofs.Ytgmhggipaopoiaa.G.r_kind_0 x8 (20 : Int))) (3 : Int) (1 : Int)).fst (fun (j : Nat) => g9 ((0 : Nat) + j) (0 : Nat)) n9) == x4 && (Go.Proofs.Ytgmhggipaopoiaa.G.fdI Go.Proofs.Ytgmhggipaopoiaa.G.r_sBest_1 (Go.Proofs.Ytgmhggipaopoiaa.G.Mem.crM (Go.Proofs.Ytgmhggipaopoiaa.G.wrA (Go.Proofs.Ytgmhggipaopoiaa.G.slW x4 x5 x6 x7) (Go.Proofs.Ytgmhggipaopoiaa.G.r_sLine_8 x4 x5 x6 x7) (Go.Proofs.Ytgmhggipaopoiaa.G.Mem.fuM (Go.Proofs.Ytgmhggipaopoiaa.G.wrA (Go.Proofs.Ytgmhggipaopoiaa.G.slW x0 x1 x2 x3) (Go.Proofs.Ytgmhggipaopoiaa.G.r_sLine_8 x0 x1 x2 x3) (Go.Proofs.Ytgmhggipaopoiaa.G.newM (64 : Nat)) (0 : Int) (0 : Int)).fst (Go.Proofs.Ytgmhggipaopoiaa.G.r_kind_0 x8 (20 : Int))) (3 : Int) (1 : Int)).fst (fun (j : Nat) => g9 ((0 : Nat) + j) (0 : Nat)) n9) == x5 && (Go.Proofs.Ytgmhggipaopoiaa.G.fdI Go.Proofs.Ytgmhggipaopoiaa.G.r_sBest_2 (Go.Proofs.Ytgmhggipaopoiaa.G.Mem.crM (Go.Proofs.Ytgmhggipaopoiaa.G.wrA (Go.Proofs.Ytgmhggipaopoiaa.G.slW x4 x5 x6 x7) (Go.Proofs.Ytgmhggipaopoiaa.G.r_sLine_8 x4 x5 x6 x7) (Go.Proofs.Ytgmhggipaopoiaa.G.Mem.fuM (Go.Proofs.Ytgmhggipaopoiaa.G.wrA (Go.Proofs.Ytgmhggipaopoiaa.G.slW x0 x1 x2 x3) (Go.Proofs.Ytgmhggipaopoiaa.G.r_sLine_8 x0 x1 x2 x3) (Go.Proofs.Ytgmhggipaopoiaa.G.newM (64 : Nat)) (0 : Int) (0 : Int)).fst (Go.Proofs.Ytgmhggipaopoiaa.G.r_kind_0 x8 (20 : Int))) (3 : Int) (1 : Int)).fst (fun (j : Nat) => g9 ((0 : Nat) + j) (0 : Nat)) n9) == x6 && (Go.Proofs.Ytgmhggipaopoiaa.G.fdI Go.Proofs.Ytgmhggipaopoiaa.G.r_sBest_3 (Go.Proofs.Ytgmhggipaopoiaa.G.Mem.crM (Go.Proofs.Ytgmhggipaopoiaa.G.wrA (Go.Proofs.Ytgmhggipaopoiaa.G.slW x4 x5 x6 x7) (Go.Proofs.Ytgmhggipaopoiaa.G.r_sLine_8 x4 x5 x6 x7) (Go.Proofs.Ytgmhggipaopoiaa.G.Mem.fuM (Go.Proofs.Ytgmhggipaopoiaa.G.wrA (Go.Proofs.Ytgmhggipaopoiaa.G.slW x0 x1 x2 x3) (Go.Proofs.Ytgmhggipaopoiaa.G.r_sLine_8 x0 x1 x2 x3) (Go.Proofs.Ytgmhggipaopoiaa.G.newM (64 : Nat)) (0 : Int) (0 : Int)).fst (Go.Proofs.Ytgmhggipaopoiaa.G.r_kind_0 x8 (20 : Int))) (3 : Int) (1 : Int)).fst (fun (j : Nat) => g9 ((0 : Nat) + j) (0 : Nat)) n9) == x7 && Bool.true)))
noncomputable def SuperLasts_c1 (x0 : Int) (x1 : Int) (x2 : Int) (x3 : Int) (x4 : Int) (x5 : Int) (x6 : Int) (x7 : Int) (x8 : Int) (n9 : Nat) (g9 : Nat → Nat → Int) : Bool := Go.Proofs.Ytgmhggipaopoiaa.G.fdI Go.Proofs.Ytgmhggipaopoiaa.G.r_sBest_0 (Go.Proofs.Ytgmhggipaopoiaa.G.Mem.crM (Go.Proofs.Ytgmhggipaopoiaa.G.wrA (Go.Proofs.Ytgmhggipaopoiaa.G.slW x4 x5 x6 x7) (Go.Proofs.Ytgmhggipaopoiaa.G.r_sLine_8 x4 x5 x6 x7) (Go.Proofs.Ytgmhggipaopoiaa.G.Mem.fuM (Go.Proofs.Ytgmhggipaopoiaa.G.wrA (Go.Proofs.Ytgmhggipaopoiaa.G.slW x0 x1 x2 x3) (Go.Proofs.Ytgmhggipaopoiaa.G.r_sLine_8 x0 x1 x2 x3) (Go.Proofs.Ytgmhggipaopoiaa.G.newM (64 : Nat)) (0 : Int) (0 : Int)).fst (Go.Proofs.Ytgmhggipaopoiaa.G.r_kind_0 x8 (20 : Int))) (3 : Int) (1 : Int)).fst (fun (j : Nat) => g9 ((0 : Nat) + j) (0 : Nat)) n9) == x0 && (Go.Proofs.Ytgmhggipaopoiaa.G.fdI Go.Proofs.Ytgmhggipaopoiaa.G.r_sBest_1 (Go.Proofs.Ytgmhggipaopoiaa.G.Mem.crM (Go.Proofs.Ytgmhggipaopoiaa.G.wrA (Go.Proofs.Ytgmhggipaopoiaa.G.slW x4 x5 x6 x7) (Go.Proofs.Ytgmhggipaopoiaa.G.r_sLine_8 x4 x5 x6 x7) (Go.Proofs.Ytgmhggipaopoiaa.G.Mem.fuM (Go.Proofs.Ytgmhggipaopoiaa.G.wrA (Go.Proofs.Ytgmhggipaopoiaa.G.slW x0 x1 x2 x3) (Go.Proofs.Ytgmhggipaopoiaa.G.r_sLine_8 x0 x1 x2 x3) (Go.Proofs.Ytgmhggipaopoiaa.G.newM (64 : Nat)) (0 : Int) (0 : Int)).fst (Go.Proofs.Ytgmhggipaopoiaa.G.r_kind_0 x8 (20 : Int))) (3 : Int) (1 : Int)).fst (fun (j : Nat) => g9 ((0 : Nat) + j) (0 : Nat)) n9) == x1 && (Go.Proofs.Ytgmhggipaopoiaa.G.fdI Go.Proofs.Ytgmhggipaopoiaa.G.r_sBest_2 (Go.Proofs.Ytgmhggipaopoiaa.G.Mem.crM (Go.Proofs.Ytgmhggipaopoiaa.G.wrA (Go.Proofs.Ytgmhggipaopoiaa.G.slW x4 x5 x6 x7) (Go.Proofs.Ytgmhggipaopoiaa.G.r_sLine_8 x4 x5 x6 x7) (Go.Proofs.Ytgmhggipaopoiaa.G.Mem.fuM (Go.Proofs.Ytgmhggipaopoiaa.G.wrA (Go.Proofs.Ytgmhggipaopoiaa.G.slW x0 x1 x2 x3) (Go.Proofs.Ytgmhggipaopoiaa.G.r_sLine_8 x0 x1 x2 x3) (Go.Proofs.Ytgmhggipaopoiaa.G.newM (64 : Nat)) (0 : Int) (0 : Int)).fst (Go.Proofs.Ytgmhggipaopoiaa.G.r_kind_0 x8 (20 : Int))) (3 : Int) (1 : Int)).fst (fun (j : Nat) => g9 ((0 : Nat) + j) (0 : Nat)) n9) == x2 && (Go.Proofs.Ytgmhggipaopoiaa.G.fdI Go.Proofs.Ytgmhggipaopoiaa.G.r_sBest_3 (Go.Proofs.Ytgmhggipaopoiaa.G.Mem.crM (Go.Proofs.Ytgmhggipaopoiaa.G.wrA (Go.Proofs.Ytgmhggipaopoiaa.G.slW x4 x5 x6 x7) (Go.Proofs.Ytgmhggipaopoiaa.G.r_sLine_8 x4 x5 x6 x7) (Go.Proofs.Ytgmhggipaopoiaa.G.Mem.fuM (Go.Proofs.Ytgmhggipaopoiaa.G.wrA (Go.Proofs.Ytgmhggipaopoiaa.G.slW x0 x1 x2 x3) (Go.Proofs.Ytgmhggipaopoiaa.G.r_sLine_8 x0 x1 x2 x3) (Go.Proofs.Ytgmhggipaopoiaa.G.newM (64 : Nat)) (0 : Int) (0 : Int)).fst (Go.Proofs.Ytgmhggipaopoiaa.G.r_kind_0 x8 (20 : Int))) (3 : Int) (1 : Int)).fst (fun (j : Nat) => g9 ((0 : Nat) + j) (0 : Nat)) n9) == x3 && Bool.true)))
noncomputable def T_SuperLasts_s0 (x0 : Int) (x1 : Int) (x2 : Int) (x3 : Int) (x4 : Int) (x5 : Int) (x6 : Int) (x7 : Int) (x8 : Int) (n9 : Nat) (g9 : Nat → Nat → Int) : Tr (List At) :=
 .br 76 ((SuperLasts_c1 x0 x1 x2 x3 x4 x5 x6 x7 x8 n9 g9))
 (.br 80 (Go.Proofs.Ytgmhggipaopoiaa.G.fdI Go.Proofs.Ytgmhggipaopoiaa.G.r_sBest_4 (Go.Proofs.Ytgmhggipaopoiaa.G.Mem.crM (Go.Proofs.Ytgmhggipaopoiaa.G.wrA (Go.Proofs.Ytgmhggipaopoiaa.G.slW x4 x5 x6 x7) (Go.Proofs.Ytgmhggipaopoiaa.G.r_sLine_8 x4 x5 x6 x7) (Go.Proofs.Ytgmhggipaopoiaa.G.Mem.fuM (Go.Proofs.Ytgmhggipaopoiaa.G.wrA (Go.Proofs.Ytgmhggipaopoiaa.G.slW x0 x1 x2 x3) (Go.Proofs.Ytgmhggipaopoiaa.G.r_sLine_8 x0 x1 x2 x3) (Go.Proofs.Ytgmhggipaopoiaa.G.newM (64 : Nat)) (0 : Int) (0 : Int)).fst (Go.Proofs.Ytgmhggipaopoiaa.G.r_kind_0 x8 (20 : Int))) (3 : Int) (1 : Int)).fst (fun (j : Nat) => g9 ((0 : Nat) + j) (0 : Nat)) n9) == (0 : Int))
 (.ok [(.b (Bool.true))])
 (.br 85 ((SuperLasts_c0 x0 x1 x2 x3 x4 x5 x6 x7 x8 n9 g9))
 (.br 89 (Go.Proofs.Ytgmhggipaopoiaa.G.fdI Go.Proofs.Ytgmhggipaopoiaa.G.r_sBest_4 (Go.Proofs.Ytgmhggipaopoiaa.G.Mem.crM (Go.Proofs.Ytgmhggipaopoiaa.G.wrA (Go.Proofs.Ytgmhggipaopoiaa.G.slW x4 x5 x6 x7) (Go.Proofs.Ytgmhggipaopoiaa.G.r_sLine_8 x4 x5 x6 x7) (Go.Proofs.Ytgmhggipaopoiaa.G.Mem.fuM (Go.Proofs.Ytgmhggipaopoiaa.G.wrA (Go.Proofs.Ytgmhggipaopoiaa.G.slW x0 x1 x2 x3) (Go.Proofs.Ytgmhggipaopoiaa.G.r_sLine_8 x0 x1 x2 x3) (Go.Proofs.Ytgmhggipaopoiaa.G.newM (64 : Nat)) (0 : Int) (0 : Int)).fst (Go.Proofs.Ytgmhggipaopoiaa.G.r_kind_0 x8 (20 : Int))) (3 : Int) (1 : Int)).fst (fun (j : Nat) => g9 ((0 : Nat) + j) (0 : Nat)) n9) == (1 : Int))
 (.ok [(.b (Decidable.decide (x4 > x0)))])
 (.ok [(.b (Bool.false))]))
 (.ok [(.b (Bool.false))])))
 (.br 85 ((SuperLasts_c0 x0 x1 x2 x3 x4 x5 x6 x7 x8 n9 g9))
 (.br 89 (Go.Proofs.Ytgmhggipaopoiaa.G.fdI Go.Proofs.Ytgmhggipaopoiaa.G.r_sBest_4 (Go.Proofs.Ytgmhggipaopoiaa.G.Mem.crM (Go.Proofs.Ytgmhggipaopoiaa.G.wrA (Go.Proofs.Ytgmhggipaopoiaa.G.slW x4 x5 x6 x7) (Go.Proofs.Ytgmhggipaopoiaa.G.r_sLine_8 x4 x5 x6 x7) (Go.Proofs.Ytgmhggipaopoiaa.G.Mem.fuM (Go.Proofs.Ytgmhggipaopoiaa.G.wrA (Go.Proofs.Ytgmhggipaopoiaa.G.slW x0 x1 x2 x3) (Go.Proofs.Ytgmhggipaopoiaa.G.r_sLine_8 x0 x1 x2 x3) (Go.Proofs.Ytgmhggipaopoiaa.G.newM (64 : Nat)) (0 : Int) (0 : Int)).fst (Go.Proofs.Ytgmhggipaopoiaa.G.r_kind_0 x8 (20 : Int))) (3 : Int) (1 : Int)).fst (fun (j : Nat) => g9 ((0 : Nat) + j) (0 : Nat)) n9) == (1 : Int))
 (.ok [(.b (Decidable.decide (x4 > x0)))])
 (.ok [(.b (Bool.false))]))
 (.ok [(.b (Bool.false))]))
noncomputable def T_SuperLasts (x0 : Int) (x1 : Int) (x2 : Int) (x3 : Int) (x4 : Int) (x5 : Int) (x6 : Int) (x7 : Int) (x8 : Int) (n9 : Nat) (g9 : Nat → Nat → Int) : Tr (List At) :=
 .br 0 (Bool.true)
 (.br 0 (Bool.false)
 (.ok [(.b (Bool.false))])
 (.br 0 (Go.Proofs.Ytgmhggipaopoiaa.G.pdec (Go.Proofs.Ytgmhggipaopoiaa.G.Mem.Ok (880000 : Int) (Go.Proofs.Ytgmhggipaopoiaa.G.newM (64 : Nat))))
 (.br 0 (Go.Proofs.Ytgmhggipaopoiaa.G.ok_sLine x0 x1 x2 x3)
 (.br 28 ((Go.Proofs.Ytgmhggipaopoiaa.G.wrA (Go.Proofs.Ytgmhggipaopoiaa.G.slW x0 x1 x2 x3) (Go.Proofs.Ytgmhggipaopoiaa.G.r_sLine_8 x0 x1 x2 x3) (Go.Proofs.Ytgmhggipaopoiaa.G.newM (64 : Nat)) (0 : Int) (0 : Int)).snd != (0 : Int))
 (.ok [(.b (Bool.true))])
 (.br 0 (Go.Proofs.Ytgmhggipaopoiaa.G.ok_kind x8 (20 : Int))
 (.br 0 (Go.Proofs.Ytgmhggipaopoiaa.G.pdec (Go.Proofs.Ytgmhggipaopoiaa.G.Mem.Ok (880000 : Int) (Go.Proofs.Ytgmhggipaopoiaa.G.Mem.fuM (Go.Proofs.Ytgmhggipaopoiaa.G.wrA (Go.Proofs.Ytgmhggipaopoiaa.G.slW x0 x1 x2 x3) (Go.Proofs.Ytgmhggipaopoiaa.G.r_sLine_8 x0 x1 x2 x3) (Go.Proofs.Ytgmhggipaopoiaa.G.newM (64 : Nat)) (0 : Int) (0 : Int)).fst (Go.Proofs.Ytgmhggipaopoiaa.G.r_kind_0 x8 (20 : Int)))))
 (.br 0 (Go.Proofs.Ytgmhggipaopoiaa.G.ok_sLine x4 x5 x6 x7)
 (.br 39 ((Go.Proofs.Ytgmhggipaopoiaa.G.wrA (Go.Proofs.Ytgmhggipaopoiaa.G.slW x4 x5 x6 x7) (Go.Proofs.Ytgmhggipaopoiaa.G.r_sLine_8 x4 x5 x6 x7) (Go.Proofs.Ytgmhggipaopoiaa.G.Mem.fuM (Go.Proofs.Ytgmhggipaopoiaa.G.wrA (Go.Proofs.Ytgmhggipaopoiaa.G.slW x0 x1 x2 x3) (Go.Proofs.Ytgmhggipaopoiaa.G.r_sLine_8 x0 x1 x2 x3) (Go.Proofs.Ytgmhggipaopoiaa.G.newM (64 : Nat)) (0 : Int) (0 : Int)).fst (Go.Proofs.Ytgmhggipaopoiaa.G.r_kind_0 x8 (20 : Int))) (3 : Int) (1 : Int)).snd == (1 : Int))
 (.ok [(.b (Bool.true))])
 (.br 0 (Go.Proofs.Ytgmhggipaopoiaa.G.pdec (Go.Proofs.Ytgmhggipaopoiaa.G.Mem.Ok (900000 : Int) (Go.Proofs.Ytgmhggipaopoiaa.G.wrA (Go.Proofs.Ytgmhggipaopoiaa.G.slW x4 x5 x6 x7) (Go.Proofs.Ytgmhggipaopoiaa.G.r_sLine_8 x4 x5 x6 x7) (Go.Proofs.Ytgmhggipaopoiaa.G.Mem.fuM (Go.Proofs.Ytgmhggipaopoiaa.G.wrA (Go.Proofs.Ytgmhggipaopoiaa.G.slW x0 x1 x2 x3) (Go.Proofs.Ytgmhggipaopoiaa.G.r_sLine_8 x0 x1 x2 x3) (Go.Proofs.Ytgmhggipaopoiaa.G.newM (64 : Nat)) (0 : Int) (0 : Int)).fst (Go.Proofs.Ytgmhggipaopoiaa.G.r_kind_0 x8 (20 : Int))) (3 : Int) (1 : Int)).fst))
 (.br 0 (Go.Proofs.Ytgmhggipaopoiaa.G.pdec (Go.Proofs.Ytgmhggipaopoiaa.G.KeepOk (fun (j : Nat) => g9 ((0 : Nat) + j) (0 : Nat)) n9))
 (.br 0 (Go.Proofs.Ytgmhggipaopoiaa.G.on16 Go.Proofs.Ytgmhggipaopoiaa.G.ok_sBest (Go.Proofs.Ytgmhggipaopoiaa.G.Mem.crM (Go.Proofs.Ytgmhggipaopoiaa.G.wrA (Go.Proofs.Ytgmhggipaopoiaa.G.slW x4 x5 x6 x7) (Go.Proofs.Ytgmhggipaopoiaa.G.r_sLine_8 x4 x5 x6 x7) (Go.Proofs.Ytgmhggipaopoiaa.G.Mem.fuM (Go.Proofs.Ytgmhggipaopoiaa.G.wrA (Go.Proofs.Ytgmhggipaopoiaa.G.slW x0 x1 x2 x3) (Go.Proofs.Ytgmhggipaopoiaa.G.r_sLine_8 x0 x1 x2 x3) (Go.Proofs.Ytgmhggipaopoiaa.G.newM (64 : Nat)) (0 : Int) (0 : Int)).fst (Go.Proofs.Ytgmhggipaopoiaa.G.r_kind_0 x8 (20 : Int))) (3 : Int) (1 : Int)).fst (fun (j : Nat) => g9 ((0 : Nat) + j) (0 : Nat)) n9))
 (.br 51 (Go.Proofs.Ytgmhggipaopoiaa.G.fdC (Go.Proofs.Ytgmhggipaopoiaa.G.Mem.crM (Go.Proofs.Ytgmhggipaopoiaa.G.wrA (Go.Proofs.Ytgmhggipaopoiaa.G.slW x4 x5 x6 x7) (Go.Proofs.Ytgmhggipaopoiaa.G.r_sLine_8 x4 x5 x6 x7) (Go.Proofs.Ytgmhggipaopoiaa.G.Mem.fuM (Go.Proofs.Ytgmhggipaopoiaa.G.wrA (Go.Proofs.Ytgmhggipaopoiaa.G.slW x0 x1 x2 x3) (Go.Proofs.Ytgmhggipaopoiaa.G.r_sLine_8 x0 x1 x2 x3) (Go.Proofs.Ytgmhggipaopoiaa.G.newM (64 : Nat)) (0 : Int) (0 : Int)).fst (Go.Proofs.Ytgmhggipaopoiaa.G.r_kind_0 x8 (20 : Int))) (3 : Int) (1 : Int)).fst (fun (j : Nat) => g9 ((0 : Nat) + j) (0 : Nat)) n9) != (0 : Int))
 (.ok [(.b (Bool.false))])
 (.br 61 ((Go.Proofs.Ytgmhggipaopoiaa.G.wrA (Go.Proofs.Ytgmhggipaopoiaa.G.slW x4 x5 x6 x7) (Go.Proofs.Ytgmhggipaopoiaa.G.r_sLine_8 x4 x5 x6 x7) (Go.Proofs.Ytgmhggipaopoiaa.G.Mem.fuM (Go.Proofs.Ytgmhggipaopoiaa.G.wrA (Go.Proofs.Ytgmhggipaopoiaa.G.slW x0 x1 x2 x3) (Go.Proofs.Ytgmhggipaopoiaa.G.r_sLine_8 x0 x1 x2 x3) (Go.Proofs.Ytgmhggipaopoiaa.G.newM (64 : Nat)) (0 : Int) (0 : Int)).fst (Go.Proofs.Ytgmhggipaopoiaa.G.r_kind_0 x8 (20 : Int))) (3 : Int) (1 : Int)).snd == (0 : Int))
 (.br 63 (Decidable.decide (x4 > x0))
 (.br 68 ((SuperLasts_c0 x0 x1 x2 x3 x4 x5 x6 x7 x8 n9 g9))
 (.ok [(.b (Go.Proofs.Ytgmhggipaopoiaa.G.fdI Go.Proofs.Ytgmhggipaopoiaa.G.r_sBest_4 (Go.Proofs.Ytgmhggipaopoiaa.G.Mem.crM (Go.Proofs.Ytgmhggipaopoiaa.G.wrA (Go.Proofs.Ytgmhggipaopoiaa.G.slW x4 x5 x6 x7) (Go.Proofs.Ytgmhggipaopoiaa.G.r_sLine_8 x4 x5 x6 x7) (Go.Proofs.Ytgmhggipaopoiaa.G.Mem.fuM (Go.Proofs.Ytgmhggipaopoiaa.G.wrA (Go.Proofs.Ytgmhggipaopoiaa.G.slW x0 x1 x2 x3) (Go.Proofs.Ytgmhggipaopoiaa.G.r_sLine_8 x0 x1 x2 x3) (Go.Proofs.Ytgmhggipaopoiaa.G.newM (64 : Nat)) (0 : Int) (0 : Int)).fst (Go.Proofs.Ytgmhggipaopoiaa.G.r_kind_0 x8 (20 : Int))) (3 : Int) (1 : Int)).fst (fun (j : Nat) => g9 ((0 : Nat) + j) (0 : Nat)) n9) == (1 : Int)))])
 (.ok [(.b (Bool.false))]))
 (T_SuperLasts_s0 x0 x1 x2 x3 x4 x5 x6 x7 x8 n9 g9))
 (T_SuperLasts_s0 x0 x1 x2 x3 x4 x5 x6 x7 x8 n9 g9)))
 (.no))
 (.no))
 (.no)))
 (.no))
 (.no))
 (.no)))
 (.no))
 (.no)))
 (.no)
noncomputable def y_SuperLasts : Nat → Option Nat := (syOf3 [28, 39, 51, 61, 63, 68, 76, 80, 85, 89] [] [])
noncomputable def TL_SuperLasts (l : List At) : Tr (List At) := T_SuperLasts (aI l 0) (aI l 1) (aI l 2) (aI l 3) (aI l 4) (aI l 5) (aI l 6) (aI l 7) (aI l 8) (aRn l 9) (aRg l 9)
theorem e_SuperLasts (l : List At) : (call Try.prog Γ_R2 y_SuperLasts noLoops 100 Try.f8 (mkV ish_SuperLasts l) (mkH ish_SuperLasts l)).bind (leafO ish_SuperLasts.hp.length ⟨[.v false [.k .b]], List.replicate ish_SuperLasts.hp.length .no⟩) = TL_SuperLasts l := by kernel_rfl

end Go.Proofs.Ytgmhggipaopoiaa.G
end

/-
  The plain law of SuperLasts.
-/
section
namespace Go.Proofs.Ytgmhggipaopoiaa.G
open Go Go.AM Go.Proofs

theorem wrA_bad {w : Nat → Int} {m : Mem} {core slot : Int} : wrA w 1 m core slot = (m, 1) := by
  have : badW slot 1 = true := rfl
  unfold wrA
  rw [this]
  rfl

/-- What Find tells behind the crash: the first superblock, or the second one. -/
def LaIs (x0 x1 x2 x3 x4 x5 x6 x7 : Int) (m : Mem) : Prop :=
  (fdI r_sBest_0 m = x0 ∧ fdI r_sBest_1 m = x1 ∧ fdI r_sBest_2 m = x2 ∧ fdI r_sBest_3 m = x3 ∧ fdI r_sBest_4 m = 0) ∨ (fdI r_sBest_0 m = x4 ∧ fdI r_sBest_1 m = x5 ∧ fdI r_sBest_2 m = x6 ∧ fdI r_sBest_3 m = x7 ∧ fdI r_sBest_4 m = 1 ∧ x4 > x0)

theorem last_law {x0 x1 x2 x3 x4 x5 x6 x7 : Int} {m : Mem} {b : Nat → Int} (h : m.on) (hn : m.n = 64) (hs : sb x0 x1 x2 x3 = true) (hs2 : sb x4 x5 x6 x7 = true) (ha : ∀ c, c < 8 → m.g 0 c = slW x0 x1 x2 x3 c) (hb : ∀ c, c < 8 → m.g 1 c = b c) (hw : rdB b = true → ∀ c, c < 8 → b c = slW x4 x5 x6 x7 c) :
    on16 ok_sBest m = true ∧ fdC m = 0 ∧ LaIs x0 x1 x2 x3 x4 x5 x6 x7 m ∧ ((∀ c, c < 8 → b c = slW x4 x5 x6 x7 c) → x4 > x0 → fdI r_sBest_0 m = x4 ∧ fdI r_sBest_1 m = x5 ∧ fdI r_sBest_2 m = x6 ∧ fdI r_sBest_3 m = x7 ∧ fdI r_sBest_4 m = 1) := by
  obtain ⟨w1, w2, w3, w4, w5⟩ := slW_rd hs (fun c hc => rfl)
  obtain ⟨p, pC, p0, p1, p2, p3, p4⟩ := find_law h hn ha hb
  rw [w1] at pC p0 p1 p2 p3
  have hC : fdC m = 0 := by rw [pC]; rfl
  have whole : (∀ c, c < 8 → b c = slW x4 x5 x6 x7 c) → (bw (slW x0 x1 x2 x3) b = decide (x4 > x0) ∧ rdG b = x4 ∧ rdR b = x5 ∧ rdS b = x6 ∧ rdC b = x7) := fun he => by
    obtain ⟨v1, v2, v3, v4, v5⟩ := slW_rd hs2 he
    refine ⟨?_, v2, v3, v4, v5⟩
    unfold bw
    rw [v1, w1, v2, w2]
    rfl
  cases hB : rdB b with
  | false =>
    have hbw : bw (slW x0 x1 x2 x3) b = false := by unfold bw; rw [hB]; rfl
    rw [hbw] at p0 p1 p2 p3 p4
    refine ⟨p, hC, .inl ⟨p0.trans w2, p1.trans w3, p2.trans w4, p3.trans w5, p4⟩, fun he hgt => ?_⟩
    have := (whole he).1
    rw [hbw, decide_eq_true hgt] at this
    cases this
  | true =>
    obtain ⟨q, v2, v3, v4, v5⟩ := whole (hw hB)
    by_cases hgt : x4 > x0
    · rw [q, decide_eq_true hgt] at p0 p1 p2 p3 p4
      exact ⟨p, hC, .inr ⟨p0.trans v2, p1.trans v3, p2.trans v4, p3.trans v5, p4, hgt⟩, fun _ _ => ⟨p0.trans v2, p1.trans v3, p2.trans v4, p3.trans v5, p4⟩⟩
    · rw [q, decide_eq_false hgt] at p0 p1 p2 p3 p4
      exact ⟨p, hC, .inl ⟨p0.trans w2, p1.trans w3, p2.trans w4, p3.trans w5, p4⟩, fun _ h => absurd h hgt⟩

theorem vc_SuperLasts (x0 x1 x2 x3 x4 x5 x6 x7 x8 : Int) (n9 : Nat) (g9 : Nat → Nat → Int) (a0 : IntKind.min .i64 ≤ x0) (b0 : x0 ≤ IntKind.max .i64) (a1 : IntKind.min .i64 ≤ x1) (b1 : x1 ≤ IntKind.max .i64) (a2 : IntKind.min .i64 ≤ x2) (b2 : x2 ≤ IntKind.max .i64) (a3 : IntKind.min .i64 ≤ x3) (b3 : x3 ≤ IntKind.max .i64) (a4 : IntKind.min .i64 ≤ x4) (b4 : x4 ≤ IntKind.max .i64) (a5 : IntKind.min .i64 ≤ x5) (b5 : x5 ≤ IntKind.max .i64) (a6 : IntKind.min .i64 ≤ x6) (b6 : x6 ≤ IntKind.max .i64) (a7 : IntKind.min .i64 ≤ x7) (b7 : x7 ≤ IntKind.max .i64) (a8 : IntKind.min .i64 ≤ x8) (b8 : x8 ≤ IntKind.max .i64) (_b : n9 ≤ maxLen) (w : ∀ (i c : Nat) (k : SK), i < n9 → [SK.n .i64][c]? = some k → wfS k (g9 i c)) :
    (T_SuperLasts x0 x1 x2 x3 x4 x5 x6 x7 x8 n9 g9).sat fun r => r = [.b true] := by
  have k0 : (newM 64).Ok 0 := newM_ok (by decide)
  have hq : KeepOk (fun j => g9 (0 + j) 0) n9 := fun j hj => w (0 + j) 0 (.n .i64) (by omega) rfl
  obtain ⟨q0, q1, q2⟩ := kind_in a8 b8 (n := 20) (by decide) (by decide)
  unfold T_SuperLasts T_SuperLasts_s0 SuperLasts_c1 SuperLasts_c0
  refine brT rfl (brF rfl (brT (pdec_yes (k0.mono (by decide))) (brT (sk _ _ _ _) ?_)))
  cases hs : sb x0 x1 x2 x3 with
  | false =>
    have e8 : r_sLine_8 x0 x1 x2 x3 = 1 := by rw [s8, hs]; rfl
    rw [e8, wrA_bad]
    exact brT rfl (Tr.sat_ok.2 rfl)
  | true =>
    have e8 : r_sLine_8 x0 x1 x2 x3 = 0 := by rw [s8, hs]; rfl
    have law0 := wrM_law (w := slW x0 x1 x2 x3) (s := 0) (core := 0) (newM_on 64) rfl k0 (by decide) (newM_coh 64 0 (by decide)) (by decide) ⟨by decide, by decide⟩ (fun _ _ => rfl)
    rw [show ((0 : Nat) : Int) = 0 from rfl] at law0
    rw [e8, wrA_eq rfl (.inl rfl)]
    generalize wrM (slW x0 x1 x2 x3) (newM 64) 0 0 = W1 at *
    obtain ⟨p2, pon, pn, pok, pc, pcoh, pnow, poth⟩ := law0
    have f1 := fuM_ok (x := r_kind_0 x8 20) pok (by omega)
    have fg : (W1.1.fuM (r_kind_0 x8 20)).g = W1.1.g := rfl
    have fh : (W1.1.fuM (r_kind_0 x8 20)).h = W1.1.h := rfl
    have fn : (W1.1.fuM (r_kind_0 x8 20)).n = 64 := pn
    generalize W1.1.fuM (r_kind_0 x8 20) = M0 at *
    refine brF (by rw [p2]; rfl) (brT q0 (brT (pdec_yes (f1.mono (by decide))) (brT (sk _ _ _ _) ?_)))
    cases hs2 : sb x4 x5 x6 x7 with
    | false =>
      have e82 : r_sLine_8 x4 x5 x6 x7 = 1 := by rw [s8, hs2]; rfl
      rw [e82, wrA_bad]
      exact brT rfl (Tr.sat_ok.2 rfl)
    | true =>
      have e82 : r_sLine_8 x4 x5 x6 x7 = 0 := by rw [s8, hs2]; rfl
      rw [e82, wrA_eq rfl (.inr rfl)]
      have row1 : M0.g 1 = fun _ => 0 := by rw [fg, (poth 1 (by decide) (by decide)).1]; rfl
      have row1h : M0.h 1 = fun _ => 0 := by rw [fh, (poth 1 (by decide) (by decide)).2]; rfl
      have cnt : ∀ j, j < 64 → M0.g j 16 = 0 := fun j hj => by
        rw [fg]
        by_cases hj0 : j = 0
        · rw [hj0]; exact pc
        · rw [(poth j hj hj0).1]; rfl
      have law := wrM_any (w := slW x4 x5 x6 x7) (s := 1) (core := 3) fn f1 (by decide) (by rw [row1, row1h]; exact newM_coh 64 1 (by decide)) (by decide) ⟨by decide, by decide⟩ cnt
      rw [show ((1 : Nat) : Int) = 1 from rfl] at law
      generalize wrM (slW x4 x5 x6 x7) M0 3 1 = W at *
      refine brC (fun _ => Tr.sat_ok.2 rfl) (fun _ => ?_)
      have okW : W.1.Ok 900000 := by
        rcases law with ⟨_, h⟩ | ⟨_, j, _, h⟩
        · exact h.ok.mono (by decide)
        · exact h.ok.mono (by decide)
      have nW : W.1.n = 64 := by
        rcases law with ⟨_, h⟩ | ⟨_, j, _, h⟩
        · exact h.n
        · exact h.n
      have oW : W.1.g 0 = M0.g 0 := by
        rcases law with ⟨_, h⟩ | ⟨_, j, _, h⟩
        · exact (h.other 0 (by decide) (by decide)).1
        · exact (h.other 0 (by decide)).1
      refine brT (pdec_yes okW) (brT (pdec_yes hq) ?_)
      have row0 : ∀ c, c < 8 → (W.1.crM (fun j => g9 (0 + j) 0) n9).g 0 c = slW x0 x1 x2 x3 c := fun c hc => by
        rw [crM_idle (by rw [oW]; exact cnt 0 (by decide)), oW, fg]
        exact pnow c hc
      have hw : rdB ((W.1.crM (fun j => g9 (0 + j) 0) n9).g 1) = true → ∀ c, c < 8 → (W.1.crM (fun j => g9 (0 + j) 0) n9).g 1 c = slW x4 x5 x6 x7 c := by
        rcases law with ⟨_, h⟩ | ⟨_, j, hj, h⟩
        · intro _ c hc
          rw [crM_idle h.cnt]
          exact h.now c hc
        · intro hB
          obtain ⟨k, hk, hr⟩ := fz_crash (q := fun j => g9 (0 + j) 0) (kn := n9) h (by decide)
          exact part_whole hs2 (fun c hc => by show sur (M0.g 1) c = 0; rw [row1]; rfl) (by omega) hr hB
      have hw0 : W.2 = 0 → ∀ c, c < 8 → (W.1.crM (fun j => g9 (0 + j) 0) n9).g 1 c = slW x4 x5 x6 x7 c := fun h0 => by
        rcases law with ⟨_, h⟩ | ⟨hne, _⟩
        · intro c hc
          rw [crM_idle h.cnt]
          exact h.now c hc
        · exact absurd h0 hne
      have nC : (W.1.crM (fun j => g9 (0 + j) 0) n9).n = 64 := nW
      obtain ⟨l1, l2, l3, l4⟩ := last_law crM_on nC hs hs2 row0 (fun c _ => rfl) hw
      generalize W.1.crM (fun j => g9 (0 + j) 0) n9 = M at *
      have last : (Tr.br 76 (fdI r_sBest_0 M == x0 && (fdI r_sBest_1 M == x1 && (fdI r_sBest_2 M == x2 && (fdI r_sBest_3 M == x3 && true)))) (Tr.br 80 (fdI r_sBest_4 M == 0) (Tr.ok [At.b true]) (Tr.br 85 (fdI r_sBest_0 M == x4 && (fdI r_sBest_1 M == x5 && (fdI r_sBest_2 M == x6 && (fdI r_sBest_3 M == x7 && true)))) (Tr.br 89 (fdI r_sBest_4 M == 1) (Tr.ok [At.b (decide (x4 > x0))]) (Tr.ok [At.b false])) (Tr.ok [At.b false]))) (Tr.br 85 (fdI r_sBest_0 M == x4 && (fdI r_sBest_1 M == x5 && (fdI r_sBest_2 M == x6 && (fdI r_sBest_3 M == x7 && true)))) (Tr.br 89 (fdI r_sBest_4 M == 1) (Tr.ok [At.b (decide (x4 > x0))]) (Tr.ok [At.b false])) (Tr.ok [At.b false]))).sat fun r => r = [At.b true] := by
        rcases l3 with ⟨f0, f1, f2, f3, f4⟩ | ⟨f0, f1, f2, f3, f4, hgt⟩
        · exact brT (by rw [f0, f1, f2, f3]; simp) (brT (by rw [f4]; rfl) (Tr.sat_ok.2 rfl))
        · have c0 : (fdI r_sBest_0 M == x4 && (fdI r_sBest_1 M == x5 && (fdI r_sBest_2 M == x6 && (fdI r_sBest_3 M == x7 && true)))) = true := by rw [f0, f1, f2, f3]; simp
          have fin : [At.b (decide (x4 > x0))] = [At.b true] := by rw [decide_eq_true hgt]
          exact brC (fun _ => brF (by rw [f4]; rfl) (brT c0 (brT (by rw [f4]; rfl) (Tr.sat_ok.2 fin)))) (fun _ => brT c0 (brT (by rw [f4]; rfl) (Tr.sat_ok.2 fin)))
      refine brT l1 (brF (by rw [l2]; rfl) (brQ (fun h0 => brD (fun hgt => ?_) (fun _ => last)) (fun _ => last)))
      obtain ⟨f0, f1, f2, f3, f4⟩ := l4 (hw0 h0) hgt
      exact brT (by rw [f0, f1, f2, f3]; simp) (Tr.sat_ok.2 (by rw [f4]; rfl))
end Go.Proofs.Ytgmhggipaopoiaa.G
end
