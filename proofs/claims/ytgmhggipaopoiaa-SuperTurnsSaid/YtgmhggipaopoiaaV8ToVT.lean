/-
  Best, in plain words.
-/
import Derived.Test.YtgmhggipaopoiaaNvV1ToV7
import Derived.KernelRfl
section
namespace Go.Proofs.Ytgmhggipaopoiaa.G
open Go Go.AM Go.Proofs

theorem best_eq (x0 x1 x2 x3 x4 x5 x6 x7 x8 x9 x10 x11 x12 x13 x14 x15 : Int) : ok_sBest x0 x1 x2 x3 x4 x5 x6 x7 x8 x9 x10 x11 x12 x13 x14 x15 = true ∧ r_sBest_5 x0 x1 x2 x3 x4 x5 x6 x7 x8 x9 x10 x11 x12 x13 x14 x15 = (r_sRead_4 x0 x1 x2 x3 x4 x5 x6 x7 || r_sRead_4 x8 x9 x10 x11 x12 x13 x14 x15) ∧ r_sBest_4 x0 x1 x2 x3 x4 x5 x6 x7 x8 x9 x10 x11 x12 x13 x14 x15 = (bif (r_sRead_4 x8 x9 x10 x11 x12 x13 x14 x15 && (!r_sRead_4 x0 x1 x2 x3 x4 x5 x6 x7 || decide (r_sRead_0 x8 x9 x10 x11 x12 x13 x14 x15 > r_sRead_0 x0 x1 x2 x3 x4 x5 x6 x7))) then 1 else 0) ∧ r_sBest_0 x0 x1 x2 x3 x4 x5 x6 x7 x8 x9 x10 x11 x12 x13 x14 x15 = (bif (r_sRead_4 x8 x9 x10 x11 x12 x13 x14 x15 && (!r_sRead_4 x0 x1 x2 x3 x4 x5 x6 x7 || decide (r_sRead_0 x8 x9 x10 x11 x12 x13 x14 x15 > r_sRead_0 x0 x1 x2 x3 x4 x5 x6 x7))) then r_sRead_0 x8 x9 x10 x11 x12 x13 x14 x15 else bif r_sRead_4 x0 x1 x2 x3 x4 x5 x6 x7 then r_sRead_0 x0 x1 x2 x3 x4 x5 x6 x7 else 0) ∧ r_sBest_1 x0 x1 x2 x3 x4 x5 x6 x7 x8 x9 x10 x11 x12 x13 x14 x15 = (bif (r_sRead_4 x8 x9 x10 x11 x12 x13 x14 x15 && (!r_sRead_4 x0 x1 x2 x3 x4 x5 x6 x7 || decide (r_sRead_0 x8 x9 x10 x11 x12 x13 x14 x15 > r_sRead_0 x0 x1 x2 x3 x4 x5 x6 x7))) then r_sRead_1 x8 x9 x10 x11 x12 x13 x14 x15 else bif r_sRead_4 x0 x1 x2 x3 x4 x5 x6 x7 then r_sRead_1 x0 x1 x2 x3 x4 x5 x6 x7 else 0) ∧ r_sBest_2 x0 x1 x2 x3 x4 x5 x6 x7 x8 x9 x10 x11 x12 x13 x14 x15 = (bif (r_sRead_4 x8 x9 x10 x11 x12 x13 x14 x15 && (!r_sRead_4 x0 x1 x2 x3 x4 x5 x6 x7 || decide (r_sRead_0 x8 x9 x10 x11 x12 x13 x14 x15 > r_sRead_0 x0 x1 x2 x3 x4 x5 x6 x7))) then r_sRead_2 x8 x9 x10 x11 x12 x13 x14 x15 else bif r_sRead_4 x0 x1 x2 x3 x4 x5 x6 x7 then r_sRead_2 x0 x1 x2 x3 x4 x5 x6 x7 else 0) ∧ r_sBest_3 x0 x1 x2 x3 x4 x5 x6 x7 x8 x9 x10 x11 x12 x13 x14 x15 = (bif (r_sRead_4 x8 x9 x10 x11 x12 x13 x14 x15 && (!r_sRead_4 x0 x1 x2 x3 x4 x5 x6 x7 || decide (r_sRead_0 x8 x9 x10 x11 x12 x13 x14 x15 > r_sRead_0 x0 x1 x2 x3 x4 x5 x6 x7))) then r_sRead_3 x8 x9 x10 x11 x12 x13 x14 x15 else bif r_sRead_4 x0 x1 x2 x3 x4 x5 x6 x7 then r_sRead_3 x0 x1 x2 x3 x4 x5 x6 x7 else 0) := by
  refine ⟨?_, ?_, ?_, ?_, ?_, ?_, ?_⟩
  · unfold ok_sBest; simp only [rk, cond_true]
    cases r_sRead_4 x0 x1 x2 x3 x4 x5 x6 x7 <;> cases r_sRead_4 x8 x9 x10 x11 x12 x13 x14 x15 <;> first | rfl | (simp)
  · unfold r_sBest_5; simp only [rk, cond_true]
    cases r_sRead_4 x0 x1 x2 x3 x4 x5 x6 x7 <;> cases r_sRead_4 x8 x9 x10 x11 x12 x13 x14 x15 <;> first | rfl | (simp) | (simp; rfl)
  · unfold r_sBest_4; simp only [rk, cond_true]
    cases r_sRead_4 x0 x1 x2 x3 x4 x5 x6 x7 <;> cases r_sRead_4 x8 x9 x10 x11 x12 x13 x14 x15 <;> first | rfl | (simp) | (simp; rfl)
  · unfold r_sBest_0; simp only [rk, cond_true]
    cases r_sRead_4 x0 x1 x2 x3 x4 x5 x6 x7 <;> cases r_sRead_4 x8 x9 x10 x11 x12 x13 x14 x15 <;> first | rfl | (simp) | (simp; rfl)
  · unfold r_sBest_1; simp only [rk, cond_true]
    cases r_sRead_4 x0 x1 x2 x3 x4 x5 x6 x7 <;> cases r_sRead_4 x8 x9 x10 x11 x12 x13 x14 x15 <;> first | rfl | (simp) | (simp; rfl)
  · unfold r_sBest_2; simp only [rk, cond_true]
    cases r_sRead_4 x0 x1 x2 x3 x4 x5 x6 x7 <;> cases r_sRead_4 x8 x9 x10 x11 x12 x13 x14 x15 <;> first | rfl | (simp) | (simp; rfl)
  · unfold r_sBest_3; simp only [rk, cond_true]
    cases r_sRead_4 x0 x1 x2 x3 x4 x5 x6 x7 <;> cases r_sRead_4 x8 x9 x10 x11 x12 x13 x14 x15 <;> first | rfl | (simp) | (simp; rfl)
end Go.Proofs.Ytgmhggipaopoiaa.G
end

/-
  What is now is what is sure, with the stores: whatever is done.
-/
section
namespace Go.Proofs.Ytgmhggipaopoiaa.G
open Go Go.AM Go.Proofs

theorem stM_coh {m : Mem} {i w v K : Int} (h : m.Coh) (ok : m.Ok K) : (m.stM i w v).Coh := by
  intro j hj
  rw [stM_n] at hj
  unfold Mem.stM
  cases hb : m.bad i w with
  | true => exact h j hj
  | false => cases m.po with
    | true => exact h j hj
    | false =>
      obtain ⟨h0, h1, h2, h3⟩ := bad_no hb
      show Coh (updR m.g i.toNat (stR (m.g i.toNat) w.toNat v) j) (updR m.h i.toNat (stH (m.h i.toNat) (m.g i.toNat 16).toNat w v) j)
      by_cases hji : j = i.toNat
      · subst hji
        rw [updR_self, updR_self]
        exact coh_st (h _ hj) (ok.2.2.2.2 _ hj).1.1 ⟨h2, h3⟩
      · rw [updR_ne hji, updR_ne hji]; exact h j hj

theorem flM_coh {m : Mem} {c i : Int} (h : m.Coh) : (m.flM c i).Coh := by
  intro j hj
  rw [flM_n] at hj
  unfold Mem.flM
  cases hb : m.bad i c with
  | true => exact h j hj
  | false => cases m.po with
    | true => exact h j hj
    | false =>
      show Coh (updR m.g i.toNat (flR (m.g i.toNat) c.toNat) j) (m.h j)
      by_cases hji : j = i.toNat
      · subst hji
        rw [updR_self]
        exact coh_fl (h _ hj)
      · rw [updR_ne hji]; exact h j hj

theorem feM_coh {m : Mem} {c K : Int} (h : m.Coh) (ok : m.Ok K) : (m.feM c).Coh := by
  intro j hj
  rw [feM_n] at hj
  unfold Mem.feM
  cases hb : corB c with
  | true => exact h j hj
  | false => cases m.po with
    | true => exact h j hj
    | false =>
      have hc := corB_no hb
      show Coh (feG m.n m.g m.h (17 + c.toNat) 0 j) (feH m.n m.g m.h (17 + c.toNat) 0 j)
      unfold feG feH
      by_cases hp : 0 ≤ j ∧ j < m.n ∧ m.g j (17 + c.toNat) > 0
      · rw [if_pos hp, if_pos hp]
        have := (ok.2.2.2.2 j hj).1.2.2.1 (17 + c.toNat) (by omega) (by omega)
        exact coh_rowS (h j hj) (by omega)
      · rw [if_neg hp, if_neg hp]; exact h j hj

theorem evM_coh {m : Mem} {i x K : Int} (h : m.Coh) (ok : m.Ok K) : (m.evM i x).Coh := by
  intro j hj
  rw [evM_n] at hj
  unfold Mem.evM
  cases hb : m.ebad i x with
  | true => exact h j hj
  | false => cases m.off with
    | true => exact h j hj
    | false =>
      obtain ⟨h0, h1, h2⟩ := ebad_no hb
      show Coh (updR m.g i.toNat (rowS (m.g i.toNat) (m.h i.toNat) (evK (m.g i.toNat) x)) j) (updR m.h i.toNat (hS (m.h i.toNat) (evK (m.g i.toNat) x)) j)
      by_cases hji : j = i.toNat
      · subst hji
        rw [updR_self, updR_self]
        exact coh_rowS (h _ hj) (evK_le (ok.2.2.2.2 _ hj).1.1 h2)
      · rw [updR_ne hji, updR_ne hji]; exact h j hj

theorem crM_coh {m : Mem} {q : Nat → Int} {kn : Nat} (h : m.Coh) : (m.crM q kn).Coh := by
  intro j hj
  have hj : j < m.n := hj
  show Coh (crG m.n m.g m.h q kn 0 j) (m.h j)
  unfold crG
  by_cases hp : 0 ≤ j ∧ j < m.n ∧ m.g j 16 > 0
  · rw [if_pos hp]; exact coh_crR
  · rw [if_neg hp]; exact h j hj

theorem newM_coh (n : Nat) : (newM n).Coh := fun _ _ _ _ => rfl

/-- Behind a crash nothing is unsure. -/
theorem crM_cnt {m : Mem} {q : Nat → Int} {kn : Nat} {K : Int} (ok : m.Ok K) {j : Nat} (hj : j < m.n) : (m.crM q kn).g j 16 = 0 := by
  show crG m.n m.g m.h q kn 0 j 16 = 0
  unfold crG
  have := (ok.2.2.2.2 j hj).1.1
  by_cases hp : 0 ≤ j ∧ j < m.n ∧ m.g j 16 > 0
  · rw [if_pos hp]; rfl
  · rw [if_neg hp]; omega

theorem coh_zero {r hr : Nat → Int} (h : Coh r hr) (h0 : r 16 = 0) (c : Nat) (hc : c < 8) : r c = r (8 + c) := by
  rw [h c hc, h0]; rfl
end Go.Proofs.Ytgmhggipaopoiaa.G
end

/-
  What Find comes to, in plain words.
-/
section
namespace Go.Proofs.Ytgmhggipaopoiaa.G
open Go Go.AM Go.Proofs

theorem crM_idle {m : Mem} {q : Nat → Int} {kn j : Nat} (h : m.g j 16 = 0) : (m.crM q kn).g j = m.g j := by
  show crG m.n m.g m.h q kn 0 j = _
  unfold crG
  rw [if_neg (fun hh => by omega)]

/-- A line as Read tells it. -/
def rdB (r : Nat → Int) : Bool := r_sRead_4 (r 0) (r 1) (r 2) (r 3) (r 4) (r 5) (r 6) (r 7)
def rdG (r : Nat → Int) : Int := r_sRead_0 (r 0) (r 1) (r 2) (r 3) (r 4) (r 5) (r 6) (r 7)
def rdR (r : Nat → Int) : Int := r_sRead_1 (r 0) (r 1) (r 2) (r 3) (r 4) (r 5) (r 6) (r 7)
def rdS (r : Nat → Int) : Int := r_sRead_2 (r 0) (r 1) (r 2) (r 3) (r 4) (r 5) (r 6) (r 7)
def rdC (r : Nat → Int) : Int := r_sRead_3 (r 0) (r 1) (r 2) (r 3) (r 4) (r 5) (r 6) (r 7)
theorem rd_congr {α : Type} {f : Int → Int → Int → Int → Int → Int → Int → Int → α} {r s : Nat → Int} (h : ∀ c, c < 8 → r c = s c) : f (r 0) (r 1) (r 2) (r 3) (r 4) (r 5) (r 6) (r 7) = f (s 0) (s 1) (s 2) (s 3) (s 4) (s 5) (s 6) (s 7) := by
  rw [h 0 (by decide), h 1 (by decide), h 2 (by decide), h 3 (by decide), h 4 (by decide), h 5 (by decide), h 6 (by decide), h 7 (by decide)]

/-- The second one counts. -/
def bw (a b : Nat → Int) : Bool := rdB b && (!rdB a || decide (rdG b > rdG a))

theorem on16_eq {α : Type} {f : Int → Int → Int → Int → Int → Int → Int → Int → Int → Int → Int → Int → Int → Int → Int → Int → α} {m : Mem} {a b : Nat → Int} (h : m.on) (hn : m.n = 64) (ha : ∀ c, c < 8 → m.g 0 c = a c) (hb : ∀ c, c < 8 → m.g 1 c = b c) :
    on16 f m = f (a 0) (a 1) (a 2) (a 3) (a 4) (a 5) (a 6) (a 7) (b 0) (b 1) (b 2) (b 3) (b 4) (b 5) (b 6) (b 7) := by
  have e0 : ∀ c, c < 8 → m.ldW 0 c = a c := fun c hc => (ldW_on h ⟨by decide, by rw [hn]; decide⟩).trans (ha c hc)
  have e1 : ∀ c, c < 8 → m.ldW 1 c = b c := fun c hc => (ldW_on h ⟨by decide, by rw [hn]; decide⟩).trans (hb c hc)
  unfold on16
  rw [e0 0 (by decide), e0 1 (by decide), e0 2 (by decide), e0 3 (by decide), e0 4 (by decide), e0 5 (by decide), e0 6 (by decide), e0 7 (by decide), e1 0 (by decide), e1 1 (by decide), e1 2 (by decide), e1 3 (by decide), e1 4 (by decide), e1 5 (by decide), e1 6 (by decide), e1 7 (by decide)]

/-- Find, where the lines 0 and 1 have 'a' and 'b'. -/
theorem find_law {m : Mem} {a b : Nat → Int} (h : m.on) (hn : m.n = 64) (ha : ∀ c, c < 8 → m.g 0 c = a c) (hb : ∀ c, c < 8 → m.g 1 c = b c) :
    on16 ok_sBest m = true ∧ fdC m = (bif rdB a || rdB b then 0 else 20) ∧ fdI r_sBest_0 m = (bif bw a b then rdG b else bif rdB a then rdG a else 0) ∧ fdI r_sBest_1 m = (bif bw a b then rdR b else bif rdB a then rdR a else 0) ∧ fdI r_sBest_2 m = (bif bw a b then rdS b else bif rdB a then rdS a else 0) ∧
      fdI r_sBest_3 m = (bif bw a b then rdC b else bif rdB a then rdC a else 0) ∧ fdI r_sBest_4 m = (bif bw a b then 1 else 0) := by
  obtain ⟨q, q5, q4, q0, q1, q2, q3⟩ := best_eq (a 0) (a 1) (a 2) (a 3) (a 4) (a 5) (a 6) (a 7) (b 0) (b 1) (b 2) (b 3) (b 4) (b 5) (b 6) (b 7)
  have l0 : m.ldC 0 = 0 := ldC_on h ⟨by decide, by rw [hn]; decide⟩
  have l1 : m.ldC 1 = 0 := ldC_on h ⟨by decide, by rw [hn]; decide⟩
  have hC : fdC m = (bif rdB a || rdB b then 0 else 20) := by
    unfold fdC
    rw [l0, l1, on16_eq h hn ha hb, q5]
    show (bif !(rdB a || rdB b) then (20 : Int) else 0) = _
    cases rdB a || rdB b <;> rfl
  have hI : ∀ (f : Int → Int → Int → Int → Int → Int → Int → Int → Int → Int → Int → Int → Int → Int → Int → Int → Int) (x y : Int),
      f (a 0) (a 1) (a 2) (a 3) (a 4) (a 5) (a 6) (a 7) (b 0) (b 1) (b 2) (b 3) (b 4) (b 5) (b 6) (b 7) = (bif bw a b then x else bif rdB a then y else 0) → fdI f m = (bif bw a b then x else bif rdB a then y else 0) := fun f x y e => by
    unfold fdI
    rw [hC, on16_eq h hn ha hb, e]
    unfold bw
    cases rdB a <;> cases rdB b <;> simp
  refine ⟨(on16_eq h hn ha hb).trans q, hC, hI _ _ _ q0, hI _ _ _ q1, hI _ _ _ q2, hI _ _ _ q3, ?_⟩
  have := hI r_sBest_4 1 0 (q4.trans (by show (bif bw a b then (1 : Int) else 0) = _; cases bw a b <;> cases rdB a <;> rfl))
  rw [this]
  cases bw a b <;> cases rdB a <;> rfl

/-- What was written is read. -/
theorem slW_rd {x0 x1 x2 x3 : Int} {r : Nat → Int} (hs : sb x0 x1 x2 x3 = true) (hr : ∀ c, c < 8 → r c = slW x0 x1 x2 x3 c) : rdB r = true ∧ rdG r = x0 ∧ rdR r = x1 ∧ rdS r = x2 ∧ rdC r = x3 := by
  obtain ⟨q4, q0, q1, q2, q3⟩ := read_line hs
  exact ⟨(rd_congr hr).trans q4, (rd_congr hr).trans q0, (rd_congr hr).trans q1, (rd_congr hr).trans q2, (rd_congr hr).trans q3⟩

theorem wrA_eq {w : Nat → Int} {c : Int} {m : Mem} {core slot : Int} (hc : c = 0) (hs : slot = 0 ∨ slot = 1) : wrA w c m core slot = wrM w m core slot := by
  have : badW slot c = false := by
    unfold badW
    rcases hs with rfl | rfl <;> subst hc <;> rfl
  unfold wrA
  rw [this]
  rfl
end Go.Proofs.Ytgmhggipaopoiaa.G
end

/-
  What functions of the seat compute, printed by a program from the explorer.
-/
section
namespace Go.Proofs.Ytgmhggipaopoiaa.G
open Go Go.AM Go.Proofs
/-! ### the loop at 6 of SuperTurns -/

noncomputable def lsh_SuperTurns_6 : FSh := ⟨[.v false [.k (.n .i64)], .v false [.k (.n .i64)], .v false [.k (.n .i64)], .any, .any, .any, .any, .any, .v false [.p 0 0], .any, .v false [.k (.n .i64)], .any, .any, .any, .any, .any, .any, .any, .any, .any, .any, .any, .any, .any, .any, .any, .any, .any, .any, .any, .any, .any, .any, .any, .any, .any, .any, .any, .any, .any, .any, .any, .any, .any, .any, .any, .any, .any, .any, .any, .any, .any, .any, .any, .any, .any, .any, .any, .any, .any, .any, .any, .any, .any, .any, .any, .any, .any, .any, .any, .any, .any, .any, .any, .any, .any, .any, .any, .any, .any, .any, .any, .any, .any, .any, .any, .any, .any, .any, .any, .any, .any, .any], [.cells [.sw 1 25, .k .b, .k .b, .k (.n .i64), .k (.n .i64)], .nrows [.n .u64, .n .u64, .n .u64, .n .u64, .n .u64, .n .u64, .n .u64, .n .u64, .n .u64, .n .u64, .n .u64, .n .u64, .n .u64, .n .u64, .n .u64, .n .u64, .n .i64, .n .i64, .n .i64, .n .i64, .n .i64, .n .i64, .n .i64, .n .i64, .n .i64] 16 [.n .i64, .n .u64] 2 false true, .no]⟩
noncomputable def xsh_SuperTurns_6_0 : FSh := ⟨[.any, .any, .any, .any, .any, .any, .any, .any, .any, .any, .any, .any, .any, .any, .any, .any, .any, .any, .any, .any, .any, .any, .any, .any, .any, .any, .any, .any, .any, .any, .any, .any, .any, .any, .any, .any, .any, .any, .any, .any, .any, .any, .any, .any, .any, .any, .any, .any, .any, .any, .any, .any, .any, .any, .any, .any, .any, .any, .any, .any, .any, .any, .any, .any, .any, .any, .any, .any, .any, .any, .any, .any, .any, .any, .any, .any, .any, .any, .any, .any, .any, .any, .any, .any, .any, .any, .any, .any, .any, .any, .any, .any, .any], []⟩
noncomputable def xsh_SuperTurns_6_1 : FSh := ⟨[.any, .any, .any, .any, .any, .any, .v false [.k .b], .any, .any, .any, .any, .any, .any, .any, .any, .any, .any, .any, .any, .any, .any, .any, .any, .any, .any, .any, .any, .any, .any, .any, .any, .any, .any, .any, .any, .any, .any, .any, .any, .any, .any, .any, .any, .any, .any, .any, .any, .any, .any, .any, .any, .any, .any, .any, .any, .any, .any, .any, .any, .any, .any, .any, .any, .any, .any, .any, .any, .any, .any, .any, .any, .any, .any, .any, .any, .any, .any, .any, .any, .any, .any, .any, .any, .any, .any, .any, .any, .any, .any, .any, .any, .any, .any], []⟩
noncomputable def xs_SuperTurns_6 : Exs := fun e => match e with
  | .normal => some lsh_SuperTurns_6
  | .exit n => (match Nat.beq n 0 with | true => some xsh_SuperTurns_6_0 | false => none)
  | .ret => some xsh_SuperTurns_6_1
noncomputable def SuperTurns_6_c0 (x1 : Int) (x2 : Int) (x3 : Int) (x4 : Bool) (x5 : Bool) (x6 : Int) (x7 : Int) (n8 : Nat) (g8 : Nat → Nat → Int) (h8 : Nat → Nat → Int) : Bool := Go.Proofs.Ytgmhggipaopoiaa.G.fdI Go.Proofs.Ytgmhggipaopoiaa.G.r_sBest_1 (Go.Proofs.Ytgmhggipaopoiaa.G.Mem.crM (Go.Proofs.Ytgmhggipaopoiaa.G.wrA (Go.Proofs.Ytgmhggipaopoiaa.G.slW x3 (Go.Proofs.Ytgmhggipaopoiaa.G.r_kind_0 x1 (1024 : Int)) (Go.Proofs.Ytgmhggipaopoiaa.G.r_kind_0 x2 (1000 : Int)) (Go.IntKind.wrap Go.IntKind.i64 ((1 : Int) + Int.tmod x3 (8 : Int)))) (Go.Proofs.Ytgmhggipaopoiaa.G.r_sLine_8 x3 (Go.Proofs.Ytgmhggipaopoiaa.G.r_kind_0 x1 (1024 : Int)) (Go.Proofs.Ytgmhggipaopoiaa.G.r_kind_0 x2 (1000 : Int)) (Go.IntKind.wrap Go.IntKind.i64 ((1 : Int) + Int.tmod x3 (8 : Int)))) { n := n8, g := g8, h := h8, off := x4, burns := x5, left := x6, steps := x7 } (Int.tmod x3 (8 : Int)) (Int.tmod x3 (2 : Int))).fst (fun (_ : Nat) => (0 : Int)) (0 : Nat)) == Go.Proofs.Ytgmhggipaopoiaa.G.r_kind_0 x1 (1024 : Int) && (Go.Proofs.Ytgmhggipaopoiaa.G.fdI Go.Proofs.Ytgmhggipaopoiaa.G.r_sBest_2 (Go.Proofs.Ytgmhggipaopoiaa.G.Mem.crM (Go.Proofs.Ytgmhggipaopoiaa.G.wrA (Go.Proofs.Ytgmhggipaopoiaa.G.slW x3 (Go.Proofs.Ytgmhggipaopoiaa.G.r_kind_0 x1 (1024 : Int)) (Go.Proofs.Ytgmhggipaopoiaa.G.r_kind_0 x2 (1000 : Int)) (Go.IntKind.wrap Go.IntKind.i64 ((1 : Int) + Int.tmod x3 (8 : Int)))) (Go.Proofs.Ytgmhggipaopoiaa.G.r_sLine_8 x3 (Go.Proofs.Ytgmhggipaopoiaa.G.r_kind_0 x1 (1024 : Int)) (Go.Proofs.Ytgmhggipaopoiaa.G.r_kind_0 x2 (1000 : Int)) (Go.IntKind.wrap Go.IntKind.i64 ((1 : Int) + Int.tmod x3 (8 : Int)))) { n := n8, g := g8, h := h8, off := x4, burns := x5, left := x6, steps := x7 } (Int.tmod x3 (8 : Int)) (Int.tmod x3 (2 : Int))).fst (fun (_ : Nat) => (0 : Int)) (0 : Nat)) == Go.Proofs.Ytgmhggipaopoiaa.G.r_kind_0 x2 (1000 : Int) && (Go.Proofs.Ytgmhggipaopoiaa.G.fdI Go.Proofs.Ytgmhggipaopoiaa.G.r_sBest_3 (Go.Proofs.Ytgmhggipaopoiaa.G.Mem.crM (Go.Proofs.Ytgmhggipaopoiaa.G.wrA (Go.Proofs.Ytgmhggipaopoiaa.G.slW x3 (Go.Proofs.Ytgmhggipaopoiaa.G.r_kind_0 x1 (1024 : Int)) (Go.Proofs.Ytgmhggipaopoiaa.G.r_kind_0 x2 (1000 : Int)) (Go.IntKind.wrap Go.IntKind.i64 ((1 : Int) + Int.tmod x3 (8 : Int)))) (Go.Proofs.Ytgmhggipaopoiaa.G.r_sLine_8 x3 (Go.Proofs.Ytgmhggipaopoiaa.G.r_kind_0 x1 (1024 : Int)) (Go.Proofs.Ytgmhggipaopoiaa.G.r_kind_0 x2 (1000 : Int)) (Go.IntKind.wrap Go.IntKind.i64 ((1 : Int) + Int.tmod x3 (8 : Int)))) { n := n8, g := g8, h := h8, off := x4, burns := x5, left := x6, steps := x7 } (Int.tmod x3 (8 : Int)) (Int.tmod x3 (2 : Int))).fst (fun (_ : Nat) => (0 : Int)) (0 : Nat)) == Go.IntKind.wrap Go.IntKind.i64 ((1 : Int) + Int.tmod x3 (8 : Int)) && Bool.true))
noncomputable def SuperTurns_6_c1 (x1 : Int) (x2 : Int) (x3 : Int) (x4 : Bool) (x5 : Bool) (x6 : Int) (x7 : Int) (n8 : Nat) (g8 : Nat → Nat → Int) (h8 : Nat → Nat → Int) : Bool := Go.Proofs.Ytgmhggipaopoiaa.G.fdI Go.Proofs.Ytgmhggipaopoiaa.G.r_sBest_0 (Go.Proofs.Ytgmhggipaopoiaa.G.Mem.crM (Go.Proofs.Ytgmhggipaopoiaa.G.wrA (Go.Proofs.Ytgmhggipaopoiaa.G.slW x3 (Go.Proofs.Ytgmhggipaopoiaa.G.r_kind_0 x1 (1024 : Int)) (Go.Proofs.Ytgmhggipaopoiaa.G.r_kind_0 x2 (1000 : Int)) (Go.IntKind.wrap Go.IntKind.i64 ((1 : Int) + Int.tmod x3 (8 : Int)))) (Go.Proofs.Ytgmhggipaopoiaa.G.r_sLine_8 x3 (Go.Proofs.Ytgmhggipaopoiaa.G.r_kind_0 x1 (1024 : Int)) (Go.Proofs.Ytgmhggipaopoiaa.G.r_kind_0 x2 (1000 : Int)) (Go.IntKind.wrap Go.IntKind.i64 ((1 : Int) + Int.tmod x3 (8 : Int)))) { n := n8, g := g8, h := h8, off := x4, burns := x5, left := x6, steps := x7 } (Int.tmod x3 (8 : Int)) (Int.tmod x3 (2 : Int))).fst (fun (_ : Nat) => (0 : Int)) (0 : Nat)) == x3 && (SuperTurns_6_c0 x1 x2 x3 x4 x5 x6 x7 n8 g8 h8)
noncomputable def SuperTurns_6_c2 (x1 : Int) (x2 : Int) (x3 : Int) (x4 : Bool) (x5 : Bool) (x6 : Int) (x7 : Int) (n8 : Nat) (g8 : Nat → Nat → Int) (h8 : Nat → Nat → Int) : Bool := !(SuperTurns_6_c1 x1 x2 x3 x4 x5 x6 x7 n8 g8 h8)
noncomputable def SuperTurns_6_c3 (x1 : Int) (x2 : Int) (x3 : Int) (x4 : Bool) (x5 : Bool) (x6 : Int) (x7 : Int) (n8 : Nat) (g8 : Nat → Nat → Int) (h8 : Nat → Nat → Int) : Bool := Go.Proofs.Ytgmhggipaopoiaa.G.fdI Go.Proofs.Ytgmhggipaopoiaa.G.r_sBest_1 (Go.Proofs.Ytgmhggipaopoiaa.G.wrA (Go.Proofs.Ytgmhggipaopoiaa.G.slW x3 (Go.Proofs.Ytgmhggipaopoiaa.G.r_kind_0 x1 (1024 : Int)) (Go.Proofs.Ytgmhggipaopoiaa.G.r_kind_0 x2 (1000 : Int)) (Go.IntKind.wrap Go.IntKind.i64 ((1 : Int) + Int.tmod x3 (8 : Int)))) (Go.Proofs.Ytgmhggipaopoiaa.G.r_sLine_8 x3 (Go.Proofs.Ytgmhggipaopoiaa.G.r_kind_0 x1 (1024 : Int)) (Go.Proofs.Ytgmhggipaopoiaa.G.r_kind_0 x2 (1000 : Int)) (Go.IntKind.wrap Go.IntKind.i64 ((1 : Int) + Int.tmod x3 (8 : Int)))) { n := n8, g := g8, h := h8, off := x4, burns := x5, left := x6, steps := x7 } (Int.tmod x3 (8 : Int)) (Int.tmod x3 (2 : Int))).fst == Go.Proofs.Ytgmhggipaopoiaa.G.r_kind_0 x1 (1024 : Int) && (Go.Proofs.Ytgmhggipaopoiaa.G.fdI Go.Proofs.Ytgmhggipaopoiaa.G.r_sBest_2 (Go.Proofs.Ytgmhggipaopoiaa.G.wrA (Go.Proofs.Ytgmhggipaopoiaa.G.slW x3 (Go.Proofs.Ytgmhggipaopoiaa.G.r_kind_0 x1 (1024 : Int)) (Go.Proofs.Ytgmhggipaopoiaa.G.r_kind_0 x2 (1000 : Int)) (Go.IntKind.wrap Go.IntKind.i64 ((1 : Int) + Int.tmod x3 (8 : Int)))) (Go.Proofs.Ytgmhggipaopoiaa.G.r_sLine_8 x3 (Go.Proofs.Ytgmhggipaopoiaa.G.r_kind_0 x1 (1024 : Int)) (Go.Proofs.Ytgmhggipaopoiaa.G.r_kind_0 x2 (1000 : Int)) (Go.IntKind.wrap Go.IntKind.i64 ((1 : Int) + Int.tmod x3 (8 : Int)))) { n := n8, g := g8, h := h8, off := x4, burns := x5, left := x6, steps := x7 } (Int.tmod x3 (8 : Int)) (Int.tmod x3 (2 : Int))).fst == Go.Proofs.Ytgmhggipaopoiaa.G.r_kind_0 x2 (1000 : Int) && (Go.Proofs.Ytgmhggipaopoiaa.G.fdI Go.Proofs.Ytgmhggipaopoiaa.G.r_sBest_3 (Go.Proofs.Ytgmhggipaopoiaa.G.wrA (Go.Proofs.Ytgmhggipaopoiaa.G.slW x3 (Go.Proofs.Ytgmhggipaopoiaa.G.r_kind_0 x1 (1024 : Int)) (Go.Proofs.Ytgmhggipaopoiaa.G.r_kind_0 x2 (1000 : Int)) (Go.IntKind.wrap Go.IntKind.i64 ((1 : Int) + Int.tmod x3 (8 : Int)))) (Go.Proofs.Ytgmhggipaopoiaa.G.r_sLine_8 x3 (Go.Proofs.Ytgmhggipaopoiaa.G.r_kind_0 x1 (1024 : Int)) (Go.Proofs.Ytgmhggipaopoiaa.G.r_kind_0 x2 (1000 : Int)) (Go.IntKind.wrap Go.IntKind.i64 ((1 : Int) + Int.tmod x3 (8 : Int)))) { n := n8, g := g8, h := h8, off := x4, burns := x5, left := x6, steps := x7 } (Int.tmod x3 (8 : Int)) (Int.tmod x3 (2 : Int))).fst == Go.IntKind.wrap Go.IntKind.i64 ((1 : Int) + Int.tmod x3 (8 : Int)) && Bool.true))
noncomputable def SuperTurns_6_c4 (x1 : Int) (x2 : Int) (x3 : Int) (x4 : Bool) (x5 : Bool) (x6 : Int) (x7 : Int) (n8 : Nat) (g8 : Nat → Nat → Int) (h8 : Nat → Nat → Int) : Bool := Go.Proofs.Ytgmhggipaopoiaa.G.fdI Go.Proofs.Ytgmhggipaopoiaa.G.r_sBest_0 (Go.Proofs.Ytgmhggipaopoiaa.G.wrA (Go.Proofs.Ytgmhggipaopoiaa.G.slW x3 (Go.Proofs.Ytgmhggipaopoiaa.G.r_kind_0 x1 (1024 : Int)) (Go.Proofs.Ytgmhggipaopoiaa.G.r_kind_0 x2 (1000 : Int)) (Go.IntKind.wrap Go.IntKind.i64 ((1 : Int) + Int.tmod x3 (8 : Int)))) (Go.Proofs.Ytgmhggipaopoiaa.G.r_sLine_8 x3 (Go.Proofs.Ytgmhggipaopoiaa.G.r_kind_0 x1 (1024 : Int)) (Go.Proofs.Ytgmhggipaopoiaa.G.r_kind_0 x2 (1000 : Int)) (Go.IntKind.wrap Go.IntKind.i64 ((1 : Int) + Int.tmod x3 (8 : Int)))) { n := n8, g := g8, h := h8, off := x4, burns := x5, left := x6, steps := x7 } (Int.tmod x3 (8 : Int)) (Int.tmod x3 (2 : Int))).fst == x3 && (SuperTurns_6_c3 x1 x2 x3 x4 x5 x6 x7 n8 g8 h8)
noncomputable def SuperTurns_6_c5 (x1 : Int) (x2 : Int) (x3 : Int) (x4 : Bool) (x5 : Bool) (x6 : Int) (x7 : Int) (n8 : Nat) (g8 : Nat → Nat → Int) (h8 : Nat → Nat → Int) : Bool := !(SuperTurns_6_c4 x1 x2 x3 x4 x5 x6 x7 n8 g8 h8)
noncomputable def B_SuperTurns_6 (x0 : Int) (x1 : Int) (x2 : Int) (x3 : Int) (x4 : Bool) (x5 : Bool) (x6 : Int) (x7 : Int) (n8 : Nat) (g8 : Nat → Nat → Int) (h8 : Nat → Nat → Int) : Tr (Ex × List At) :=
 .br 0 (Go.Proofs.Ytgmhggipaopoiaa.G.ok_kind x0 (21 : Int))
 (.br 32 (Decidable.decide (x3 ≤ Go.Proofs.Ytgmhggipaopoiaa.G.r_kind_0 x0 (21 : Int)))
 (.br 0 (Go.Proofs.Ytgmhggipaopoiaa.G.ok_kind x1 (1024 : Int))
 (.br 0 (Go.Proofs.Ytgmhggipaopoiaa.G.ok_kind x2 (1000 : Int))
 (.br 0 (Go.Proofs.Ytgmhggipaopoiaa.G.pdec (Go.Proofs.Ytgmhggipaopoiaa.G.Mem.Ok (880000 : Int) { n := n8, g := g8, h := h8, off := x4, burns := x5, left := x6, steps := x7 }))
 (.br 0 (Go.Proofs.Ytgmhggipaopoiaa.G.ok_sLine x3 (Go.Proofs.Ytgmhggipaopoiaa.G.r_kind_0 x1 (1024 : Int)) (Go.Proofs.Ytgmhggipaopoiaa.G.r_kind_0 x2 (1000 : Int)) (Go.IntKind.wrap Go.IntKind.i64 ((1 : Int) + Int.tmod x3 (8 : Int))))
 (.br 51 ((Go.Proofs.Ytgmhggipaopoiaa.G.wrA (Go.Proofs.Ytgmhggipaopoiaa.G.slW x3 (Go.Proofs.Ytgmhggipaopoiaa.G.r_kind_0 x1 (1024 : Int)) (Go.Proofs.Ytgmhggipaopoiaa.G.r_kind_0 x2 (1000 : Int)) (Go.IntKind.wrap Go.IntKind.i64 ((1 : Int) + Int.tmod x3 (8 : Int)))) (Go.Proofs.Ytgmhggipaopoiaa.G.r_sLine_8 x3 (Go.Proofs.Ytgmhggipaopoiaa.G.r_kind_0 x1 (1024 : Int)) (Go.Proofs.Ytgmhggipaopoiaa.G.r_kind_0 x2 (1000 : Int)) (Go.IntKind.wrap Go.IntKind.i64 ((1 : Int) + Int.tmod x3 (8 : Int)))) { n := n8, g := g8, h := h8, off := x4, burns := x5, left := x6, steps := x7 } (Int.tmod x3 (8 : Int)) (Int.tmod x3 (2 : Int))).snd != (0 : Int))
 (.ok (.ret, [(.b (Bool.false))]))
 (.br 0 (Go.Proofs.Ytgmhggipaopoiaa.G.on16 Go.Proofs.Ytgmhggipaopoiaa.G.ok_sBest (Go.Proofs.Ytgmhggipaopoiaa.G.wrA (Go.Proofs.Ytgmhggipaopoiaa.G.slW x3 (Go.Proofs.Ytgmhggipaopoiaa.G.r_kind_0 x1 (1024 : Int)) (Go.Proofs.Ytgmhggipaopoiaa.G.r_kind_0 x2 (1000 : Int)) (Go.IntKind.wrap Go.IntKind.i64 ((1 : Int) + Int.tmod x3 (8 : Int)))) (Go.Proofs.Ytgmhggipaopoiaa.G.r_sLine_8 x3 (Go.Proofs.Ytgmhggipaopoiaa.G.r_kind_0 x1 (1024 : Int)) (Go.Proofs.Ytgmhggipaopoiaa.G.r_kind_0 x2 (1000 : Int)) (Go.IntKind.wrap Go.IntKind.i64 ((1 : Int) + Int.tmod x3 (8 : Int)))) { n := n8, g := g8, h := h8, off := x4, burns := x5, left := x6, steps := x7 } (Int.tmod x3 (8 : Int)) (Int.tmod x3 (2 : Int))).fst)
 (.br 0 (Go.Proofs.Ytgmhggipaopoiaa.G.pdec (Go.Proofs.Ytgmhggipaopoiaa.G.Mem.Ok (900000 : Int) (Go.Proofs.Ytgmhggipaopoiaa.G.wrA (Go.Proofs.Ytgmhggipaopoiaa.G.slW x3 (Go.Proofs.Ytgmhggipaopoiaa.G.r_kind_0 x1 (1024 : Int)) (Go.Proofs.Ytgmhggipaopoiaa.G.r_kind_0 x2 (1000 : Int)) (Go.IntKind.wrap Go.IntKind.i64 ((1 : Int) + Int.tmod x3 (8 : Int)))) (Go.Proofs.Ytgmhggipaopoiaa.G.r_sLine_8 x3 (Go.Proofs.Ytgmhggipaopoiaa.G.r_kind_0 x1 (1024 : Int)) (Go.Proofs.Ytgmhggipaopoiaa.G.r_kind_0 x2 (1000 : Int)) (Go.IntKind.wrap Go.IntKind.i64 ((1 : Int) + Int.tmod x3 (8 : Int)))) { n := n8, g := g8, h := h8, off := x4, burns := x5, left := x6, steps := x7 } (Int.tmod x3 (8 : Int)) (Int.tmod x3 (2 : Int))).fst))
 (.br 0 (Go.Proofs.Ytgmhggipaopoiaa.G.pdec (Go.Proofs.Ytgmhggipaopoiaa.G.KeepOk (fun (_ : Nat) => (0 : Int)) (0 : Nat)))
 (.br 0 (Go.Proofs.Ytgmhggipaopoiaa.G.on16 Go.Proofs.Ytgmhggipaopoiaa.G.ok_sBest (Go.Proofs.Ytgmhggipaopoiaa.G.Mem.crM (Go.Proofs.Ytgmhggipaopoiaa.G.wrA (Go.Proofs.Ytgmhggipaopoiaa.G.slW x3 (Go.Proofs.Ytgmhggipaopoiaa.G.r_kind_0 x1 (1024 : Int)) (Go.Proofs.Ytgmhggipaopoiaa.G.r_kind_0 x2 (1000 : Int)) (Go.IntKind.wrap Go.IntKind.i64 ((1 : Int) + Int.tmod x3 (8 : Int)))) (Go.Proofs.Ytgmhggipaopoiaa.G.r_sLine_8 x3 (Go.Proofs.Ytgmhggipaopoiaa.G.r_kind_0 x1 (1024 : Int)) (Go.Proofs.Ytgmhggipaopoiaa.G.r_kind_0 x2 (1000 : Int)) (Go.IntKind.wrap Go.IntKind.i64 ((1 : Int) + Int.tmod x3 (8 : Int)))) { n := n8, g := g8, h := h8, off := x4, burns := x5, left := x6, steps := x7 } (Int.tmod x3 (8 : Int)) (Int.tmod x3 (2 : Int))).fst (fun (_ : Nat) => (0 : Int)) (0 : Nat)))
 (.br 68 (Go.Proofs.Ytgmhggipaopoiaa.G.fdC (Go.Proofs.Ytgmhggipaopoiaa.G.wrA (Go.Proofs.Ytgmhggipaopoiaa.G.slW x3 (Go.Proofs.Ytgmhggipaopoiaa.G.r_kind_0 x1 (1024 : Int)) (Go.Proofs.Ytgmhggipaopoiaa.G.r_kind_0 x2 (1000 : Int)) (Go.IntKind.wrap Go.IntKind.i64 ((1 : Int) + Int.tmod x3 (8 : Int)))) (Go.Proofs.Ytgmhggipaopoiaa.G.r_sLine_8 x3 (Go.Proofs.Ytgmhggipaopoiaa.G.r_kind_0 x1 (1024 : Int)) (Go.Proofs.Ytgmhggipaopoiaa.G.r_kind_0 x2 (1000 : Int)) (Go.IntKind.wrap Go.IntKind.i64 ((1 : Int) + Int.tmod x3 (8 : Int)))) { n := n8, g := g8, h := h8, off := x4, burns := x5, left := x6, steps := x7 } (Int.tmod x3 (8 : Int)) (Int.tmod x3 (2 : Int))).fst != (0 : Int))
 (.ok (.ret, [(.b (Bool.false))]))
 (.br 72 (Go.Proofs.Ytgmhggipaopoiaa.G.fdC (Go.Proofs.Ytgmhggipaopoiaa.G.Mem.crM (Go.Proofs.Ytgmhggipaopoiaa.G.wrA (Go.Proofs.Ytgmhggipaopoiaa.G.slW x3 (Go.Proofs.Ytgmhggipaopoiaa.G.r_kind_0 x1 (1024 : Int)) (Go.Proofs.Ytgmhggipaopoiaa.G.r_kind_0 x2 (1000 : Int)) (Go.IntKind.wrap Go.IntKind.i64 ((1 : Int) + Int.tmod x3 (8 : Int)))) (Go.Proofs.Ytgmhggipaopoiaa.G.r_sLine_8 x3 (Go.Proofs.Ytgmhggipaopoiaa.G.r_kind_0 x1 (1024 : Int)) (Go.Proofs.Ytgmhggipaopoiaa.G.r_kind_0 x2 (1000 : Int)) (Go.IntKind.wrap Go.IntKind.i64 ((1 : Int) + Int.tmod x3 (8 : Int)))) { n := n8, g := g8, h := h8, off := x4, burns := x5, left := x6, steps := x7 } (Int.tmod x3 (8 : Int)) (Int.tmod x3 (2 : Int))).fst (fun (_ : Nat) => (0 : Int)) (0 : Nat)) != (0 : Int))
 (.ok (.ret, [(.b (Bool.false))]))
 (.br 77 ((SuperTurns_6_c5 x1 x2 x3 x4 x5 x6 x7 n8 g8 h8))
 (.ok (.ret, [(.b (Bool.false))]))
 (.br 82 ((SuperTurns_6_c2 x1 x2 x3 x4 x5 x6 x7 n8 g8 h8))
 (.ok (.ret, [(.b (Bool.false))]))
 (.br 88 (Go.Proofs.Ytgmhggipaopoiaa.G.fdI Go.Proofs.Ytgmhggipaopoiaa.G.r_sBest_4 (Go.Proofs.Ytgmhggipaopoiaa.G.wrA (Go.Proofs.Ytgmhggipaopoiaa.G.slW x3 (Go.Proofs.Ytgmhggipaopoiaa.G.r_kind_0 x1 (1024 : Int)) (Go.Proofs.Ytgmhggipaopoiaa.G.r_kind_0 x2 (1000 : Int)) (Go.IntKind.wrap Go.IntKind.i64 ((1 : Int) + Int.tmod x3 (8 : Int)))) (Go.Proofs.Ytgmhggipaopoiaa.G.r_sLine_8 x3 (Go.Proofs.Ytgmhggipaopoiaa.G.r_kind_0 x1 (1024 : Int)) (Go.Proofs.Ytgmhggipaopoiaa.G.r_kind_0 x2 (1000 : Int)) (Go.IntKind.wrap Go.IntKind.i64 ((1 : Int) + Int.tmod x3 (8 : Int)))) { n := n8, g := g8, h := h8, off := x4, burns := x5, left := x6, steps := x7 } (Int.tmod x3 (8 : Int)) (Int.tmod x3 (2 : Int))).fst != Int.tmod x3 (2 : Int))
 (.ok (.ret, [(.b (Bool.false))]))
 (.br 92 (Go.Proofs.Ytgmhggipaopoiaa.G.fdI Go.Proofs.Ytgmhggipaopoiaa.G.r_sBest_4 (Go.Proofs.Ytgmhggipaopoiaa.G.Mem.crM (Go.Proofs.Ytgmhggipaopoiaa.G.wrA (Go.Proofs.Ytgmhggipaopoiaa.G.slW x3 (Go.Proofs.Ytgmhggipaopoiaa.G.r_kind_0 x1 (1024 : Int)) (Go.Proofs.Ytgmhggipaopoiaa.G.r_kind_0 x2 (1000 : Int)) (Go.IntKind.wrap Go.IntKind.i64 ((1 : Int) + Int.tmod x3 (8 : Int)))) (Go.Proofs.Ytgmhggipaopoiaa.G.r_sLine_8 x3 (Go.Proofs.Ytgmhggipaopoiaa.G.r_kind_0 x1 (1024 : Int)) (Go.Proofs.Ytgmhggipaopoiaa.G.r_kind_0 x2 (1000 : Int)) (Go.IntKind.wrap Go.IntKind.i64 ((1 : Int) + Int.tmod x3 (8 : Int)))) { n := n8, g := g8, h := h8, off := x4, burns := x5, left := x6, steps := x7 } (Int.tmod x3 (8 : Int)) (Int.tmod x3 (2 : Int))).fst (fun (_ : Nat) => (0 : Int)) (0 : Nat)) != Go.Proofs.Ytgmhggipaopoiaa.G.fdI Go.Proofs.Ytgmhggipaopoiaa.G.r_sBest_4 (Go.Proofs.Ytgmhggipaopoiaa.G.wrA (Go.Proofs.Ytgmhggipaopoiaa.G.slW x3 (Go.Proofs.Ytgmhggipaopoiaa.G.r_kind_0 x1 (1024 : Int)) (Go.Proofs.Ytgmhggipaopoiaa.G.r_kind_0 x2 (1000 : Int)) (Go.IntKind.wrap Go.IntKind.i64 ((1 : Int) + Int.tmod x3 (8 : Int)))) (Go.Proofs.Ytgmhggipaopoiaa.G.r_sLine_8 x3 (Go.Proofs.Ytgmhggipaopoiaa.G.r_kind_0 x1 (1024 : Int)) (Go.Proofs.Ytgmhggipaopoiaa.G.r_kind_0 x2 (1000 : Int)) (Go.IntKind.wrap Go.IntKind.i64 ((1 : Int) + Int.tmod x3 (8 : Int)))) { n := n8, g := g8, h := h8, off := x4, burns := x5, left := x6, steps := x7 } (Int.tmod x3 (8 : Int)) (Int.tmod x3 (2 : Int))).fst)
 (.ok (.ret, [(.b (Bool.false))]))
 (.ok (.normal, [(.i (x0)), (.i (x1)), (.i (x2)), (.i (Go.IntKind.wrap Go.IntKind.i64 (x3 + (1 : Int)))), (.b ((Go.Proofs.Ytgmhggipaopoiaa.G.Mem.crM (Go.Proofs.Ytgmhggipaopoiaa.G.wrA (Go.Proofs.Ytgmhggipaopoiaa.G.slW x3 (Go.Proofs.Ytgmhggipaopoiaa.G.r_kind_0 x1 (1024 : Int)) (Go.Proofs.Ytgmhggipaopoiaa.G.r_kind_0 x2 (1000 : Int)) (Go.IntKind.wrap Go.IntKind.i64 ((1 : Int) + Int.tmod x3 (8 : Int)))) (Go.Proofs.Ytgmhggipaopoiaa.G.r_sLine_8 x3 (Go.Proofs.Ytgmhggipaopoiaa.G.r_kind_0 x1 (1024 : Int)) (Go.Proofs.Ytgmhggipaopoiaa.G.r_kind_0 x2 (1000 : Int)) (Go.IntKind.wrap Go.IntKind.i64 ((1 : Int) + Int.tmod x3 (8 : Int)))) { n := n8, g := g8, h := h8, off := x4, burns := x5, left := x6, steps := x7 } (Int.tmod x3 (8 : Int)) (Int.tmod x3 (2 : Int))).fst (fun (_ : Nat) => (0 : Int)) (0 : Nat)).off)), (.b ((Go.Proofs.Ytgmhggipaopoiaa.G.Mem.crM (Go.Proofs.Ytgmhggipaopoiaa.G.wrA (Go.Proofs.Ytgmhggipaopoiaa.G.slW x3 (Go.Proofs.Ytgmhggipaopoiaa.G.r_kind_0 x1 (1024 : Int)) (Go.Proofs.Ytgmhggipaopoiaa.G.r_kind_0 x2 (1000 : Int)) (Go.IntKind.wrap Go.IntKind.i64 ((1 : Int) + Int.tmod x3 (8 : Int)))) (Go.Proofs.Ytgmhggipaopoiaa.G.r_sLine_8 x3 (Go.Proofs.Ytgmhggipaopoiaa.G.r_kind_0 x1 (1024 : Int)) (Go.Proofs.Ytgmhggipaopoiaa.G.r_kind_0 x2 (1000 : Int)) (Go.IntKind.wrap Go.IntKind.i64 ((1 : Int) + Int.tmod x3 (8 : Int)))) { n := n8, g := g8, h := h8, off := x4, burns := x5, left := x6, steps := x7 } (Int.tmod x3 (8 : Int)) (Int.tmod x3 (2 : Int))).fst (fun (_ : Nat) => (0 : Int)) (0 : Nat)).burns)), (.i ((Go.Proofs.Ytgmhggipaopoiaa.G.Mem.crM (Go.Proofs.Ytgmhggipaopoiaa.G.wrA (Go.Proofs.Ytgmhggipaopoiaa.G.slW x3 (Go.Proofs.Ytgmhggipaopoiaa.G.r_kind_0 x1 (1024 : Int)) (Go.Proofs.Ytgmhggipaopoiaa.G.r_kind_0 x2 (1000 : Int)) (Go.IntKind.wrap Go.IntKind.i64 ((1 : Int) + Int.tmod x3 (8 : Int)))) (Go.Proofs.Ytgmhggipaopoiaa.G.r_sLine_8 x3 (Go.Proofs.Ytgmhggipaopoiaa.G.r_kind_0 x1 (1024 : Int)) (Go.Proofs.Ytgmhggipaopoiaa.G.r_kind_0 x2 (1000 : Int)) (Go.IntKind.wrap Go.IntKind.i64 ((1 : Int) + Int.tmod x3 (8 : Int)))) { n := n8, g := g8, h := h8, off := x4, burns := x5, left := x6, steps := x7 } (Int.tmod x3 (8 : Int)) (Int.tmod x3 (2 : Int))).fst (fun (_ : Nat) => (0 : Int)) (0 : Nat)).left)), (.i ((Go.Proofs.Ytgmhggipaopoiaa.G.Mem.crM (Go.Proofs.Ytgmhggipaopoiaa.G.wrA (Go.Proofs.Ytgmhggipaopoiaa.G.slW x3 (Go.Proofs.Ytgmhggipaopoiaa.G.r_kind_0 x1 (1024 : Int)) (Go.Proofs.Ytgmhggipaopoiaa.G.r_kind_0 x2 (1000 : Int)) (Go.IntKind.wrap Go.IntKind.i64 ((1 : Int) + Int.tmod x3 (8 : Int)))) (Go.Proofs.Ytgmhggipaopoiaa.G.r_sLine_8 x3 (Go.Proofs.Ytgmhggipaopoiaa.G.r_kind_0 x1 (1024 : Int)) (Go.Proofs.Ytgmhggipaopoiaa.G.r_kind_0 x2 (1000 : Int)) (Go.IntKind.wrap Go.IntKind.i64 ((1 : Int) + Int.tmod x3 (8 : Int)))) { n := n8, g := g8, h := h8, off := x4, burns := x5, left := x6, steps := x7 } (Int.tmod x3 (8 : Int)) (Int.tmod x3 (2 : Int))).fst (fun (_ : Nat) => (0 : Int)) (0 : Nat)).steps)), (.q ((Go.Proofs.Ytgmhggipaopoiaa.G.Mem.crM (Go.Proofs.Ytgmhggipaopoiaa.G.wrA (Go.Proofs.Ytgmhggipaopoiaa.G.slW x3 (Go.Proofs.Ytgmhggipaopoiaa.G.r_kind_0 x1 (1024 : Int)) (Go.Proofs.Ytgmhggipaopoiaa.G.r_kind_0 x2 (1000 : Int)) (Go.IntKind.wrap Go.IntKind.i64 ((1 : Int) + Int.tmod x3 (8 : Int)))) (Go.Proofs.Ytgmhggipaopoiaa.G.r_sLine_8 x3 (Go.Proofs.Ytgmhggipaopoiaa.G.r_kind_0 x1 (1024 : Int)) (Go.Proofs.Ytgmhggipaopoiaa.G.r_kind_0 x2 (1000 : Int)) (Go.IntKind.wrap Go.IntKind.i64 ((1 : Int) + Int.tmod x3 (8 : Int)))) { n := n8, g := g8, h := h8, off := x4, burns := x5, left := x6, steps := x7 } (Int.tmod x3 (8 : Int)) (Int.tmod x3 (2 : Int))).fst (fun (_ : Nat) => (0 : Int)) (0 : Nat)).n) ((Go.Proofs.Ytgmhggipaopoiaa.G.Mem.crM (Go.Proofs.Ytgmhggipaopoiaa.G.wrA (Go.Proofs.Ytgmhggipaopoiaa.G.slW x3 (Go.Proofs.Ytgmhggipaopoiaa.G.r_kind_0 x1 (1024 : Int)) (Go.Proofs.Ytgmhggipaopoiaa.G.r_kind_0 x2 (1000 : Int)) (Go.IntKind.wrap Go.IntKind.i64 ((1 : Int) + Int.tmod x3 (8 : Int)))) (Go.Proofs.Ytgmhggipaopoiaa.G.r_sLine_8 x3 (Go.Proofs.Ytgmhggipaopoiaa.G.r_kind_0 x1 (1024 : Int)) (Go.Proofs.Ytgmhggipaopoiaa.G.r_kind_0 x2 (1000 : Int)) (Go.IntKind.wrap Go.IntKind.i64 ((1 : Int) + Int.tmod x3 (8 : Int)))) { n := n8, g := g8, h := h8, off := x4, burns := x5, left := x6, steps := x7 } (Int.tmod x3 (8 : Int)) (Int.tmod x3 (2 : Int))).fst (fun (_ : Nat) => (0 : Int)) (0 : Nat)).g) ((16 : Nat)) ((2 : Nat)) ((Go.Proofs.Ytgmhggipaopoiaa.G.Mem.crM (Go.Proofs.Ytgmhggipaopoiaa.G.wrA (Go.Proofs.Ytgmhggipaopoiaa.G.slW x3 (Go.Proofs.Ytgmhggipaopoiaa.G.r_kind_0 x1 (1024 : Int)) (Go.Proofs.Ytgmhggipaopoiaa.G.r_kind_0 x2 (1000 : Int)) (Go.IntKind.wrap Go.IntKind.i64 ((1 : Int) + Int.tmod x3 (8 : Int)))) (Go.Proofs.Ytgmhggipaopoiaa.G.r_sLine_8 x3 (Go.Proofs.Ytgmhggipaopoiaa.G.r_kind_0 x1 (1024 : Int)) (Go.Proofs.Ytgmhggipaopoiaa.G.r_kind_0 x2 (1000 : Int)) (Go.IntKind.wrap Go.IntKind.i64 ((1 : Int) + Int.tmod x3 (8 : Int)))) { n := n8, g := g8, h := h8, off := x4, burns := x5, left := x6, steps := x7 } (Int.tmod x3 (8 : Int)) (Int.tmod x3 (2 : Int))).fst (fun (_ : Nat) => (0 : Int)) (0 : Nat)).h))]))))))))
 (.no))
 (.no))
 (.no))
 (.no)))
 (.no))
 (.no))
 (.no))
 (.no))
 (.ok (.exit 0, [])))
 (.no)
noncomputable def y_SuperTurns_6 : Nat → Option Nat := (syOf3 [32, 51, 68, 72, 77, 82, 88, 92] [] [])
noncomputable def BL_SuperTurns_6 (l : List At) : Tr (Ex × List At) := B_SuperTurns_6 (aI l 0) (aI l 1) (aI l 2) (aI l 3) (aB l 4) (aB l 5) (aI l 6) (aI l 7) (aRn l 8) (aRg l 8) (aMh l 8 16 2)
theorem eB_SuperTurns_6 (l : List At) : (exec Try.prog Γ_R2 y_SuperTurns_6 noLoops 100 (loopAt Try.f7 6) ⟨mkV lsh_SuperTurns_6 l, mkH lsh_SuperTurns_6 l⟩).bind (leafL 0 xs_SuperTurns_6) = BL_SuperTurns_6 l := by kernel_rfl
/- by hand: O_SuperTurns_6 (x0 : Int) (x1 : Int) (x2 : Int) (x3 : Int) (x4 : Bool) (x5 : Bool) (x6 : Int) (x7 : Int) (n8 : Nat) (g8 : Nat → Nat → Int) (h8 : Nat → Nat → Int) : Tr (Ex × List At); OL_SuperTurns_6 (l) := O_SuperTurns_6 (aI l 0) (aI l 1) (aI l 2) (aI l 3) (aB l 4) (aB l 5) (aI l 6) (aI l 7) (aRn l 8) (aRg l 8) (aMh l 8 16 2); μ_SuperTurns_6 : List At → Nat; rd_SuperTurns_6 : ∀ l r, (OL_SuperTurns_6 l).val = some r → RoundA BL_SuperTurns_6 OL_SuperTurns_6 μ_SuperTurns_6 l r -/

end Go.Proofs.Ytgmhggipaopoiaa.G
end

/-
  The loop of SuperTurns.
-/
section
namespace Go.Proofs.Ytgmhggipaopoiaa.G
open Go Go.AM Go.Proofs

/-- Ahead of the 'i'-th turn. -/
structure TuInv (i : Int) (m : Mem) : Prop where
  on : m.on
  n : m.n = 64
  ok : m.Ok (11 * i)
  coh : m.Coh
  cnt : ∀ j, j < 64 → m.g j 16 = 0
  old : rdB (m.g (1 - i % 2).toNat) = false ∨ rdG (m.g (1 - i % 2).toNat) < i

/-- What Find tells, and that it may be asked. -/
def FdIs (m : Mem) (G R S C I : Int) : Prop := on16 ok_sBest m = true ∧ fdC m = 0 ∧ fdI r_sBest_0 m = G ∧ fdI r_sBest_1 m = R ∧ fdI r_sBest_2 m = S ∧ fdI r_sBest_3 m = C ∧ fdI r_sBest_4 m = I

theorem find_new {m : Mem} {i R S C : Int} (h : m.on) (hn : m.n = 64) (hsb : sb i R S C = true) (hnew : ∀ c, c < 8 → m.g (i % 2).toNat c = slW i R S C c) (old : rdB (m.g (1 - i % 2).toNat) = false ∨ rdG (m.g (1 - i % 2).toNat) < i) : FdIs m i R S C (i % 2) := by
  have hi2 : i % 2 = 0 ∨ i % 2 = 1 := by omega
  obtain ⟨w1, w2, w3, w4, w5⟩ := slW_rd hsb (fun c hc => rfl)
  rcases hi2 with he | he
  · rw [he] at hnew old ⊢
    obtain ⟨p, pC, p0, p1, p2, p3, p4⟩ := find_law h hn hnew (b := m.g 1) (fun c _ => rfl)
    have hb : bw (slW i R S C) (m.g 1) = false := by
      unfold bw
      rw [w1, w2]
      rcases old with ho | ho
      · rw [show m.g 1 = m.g ((1 - (0 : Int)).toNat) from rfl, ho]; rfl
      · have : decide (rdG (m.g 1) > i) = false := decide_eq_false (by have ho : rdG (m.g 1) < i := ho; omega)
        rw [this]; cases rdB (m.g 1) <;> rfl
    rw [hb, w1] at p0 p1 p2 p3
    rw [hb] at p4
    rw [w1] at pC
    exact ⟨p, pC, p0.trans w2, p1.trans w3, p2.trans w4, p3.trans w5, p4⟩
  · rw [he] at hnew old ⊢
    obtain ⟨p, pC, p0, p1, p2, p3, p4⟩ := find_law h hn (a := m.g 0) (fun c _ => rfl) hnew
    have hb : bw (m.g 0) (slW i R S C) = true := by
      unfold bw
      rw [w1, w2]
      rcases old with ho | ho
      · rw [show m.g 0 = m.g ((1 - (1 : Int)).toNat) from rfl, ho]; rfl
      · have : decide (i > rdG (m.g 0)) = true := decide_eq_true ho
        rw [this]; cases rdB (m.g 0) <;> rfl
    rw [hb] at p0 p1 p2 p3 p4
    rw [w1] at pC
    exact ⟨p, by rw [pC]; cases rdB (m.g 0) <;> rfl, p0.trans w2, p1.trans w3, p2.trans w4, p3.trans w5, p4⟩

/-- A turn. -/
theorem turn {i R S : Int} {m : Mem} (h : TuInv i m) (hi : 1 ≤ i ∧ i ≤ 20) (hR : 0 ≤ R ∧ R < 1024) (hS : 0 ≤ S ∧ S < 1000) :
    r_sLine_8 i R S (1 + Int.tmod i 8) = 0 ∧ wrA (slW i R S (1 + Int.tmod i 8)) 0 m (Int.tmod i 8) (Int.tmod i 2) = wrM (slW i R S (1 + Int.tmod i 8)) m (Int.tmod i 8) (Int.tmod i 2) ∧ (wrM (slW i R S (1 + Int.tmod i 8)) m (Int.tmod i 8) (Int.tmod i 2)).2 = 0 ∧
      (wrM (slW i R S (1 + Int.tmod i 8)) m (Int.tmod i 8) (Int.tmod i 2)).1.Ok 880000 ∧ FdIs (wrM (slW i R S (1 + Int.tmod i 8)) m (Int.tmod i 8) (Int.tmod i 2)).1 i R S (1 + Int.tmod i 8) (Int.tmod i 2) ∧
      FdIs ((wrM (slW i R S (1 + Int.tmod i 8)) m (Int.tmod i 8) (Int.tmod i 2)).1.crM (fun _ => 0) 0) i R S (1 + Int.tmod i 8) (Int.tmod i 2) ∧ TuInv (i + 1) ((wrM (slW i R S (1 + Int.tmod i 8)) m (Int.tmod i 8) (Int.tmod i 2)).1.crM (fun _ => 0) 0) := by
  have e8 : Int.tmod i 8 = i % 8 := Int.tmod_eq_emod_of_nonneg (by omega)
  have e2 : Int.tmod i 2 = i % 2 := Int.tmod_eq_emod_of_nonneg (by omega)
  rw [e8, e2]
  have hsb : sb i R S (1 + i % 8) = true := by
    unfold sb
    exact decide_eq_true ⟨by omega, by omega, by omega, by omega, by omega, by omega, by omega, by omega⟩
  have l8 : r_sLine_8 i R S (1 + i % 8) = 0 := by rw [s8, hsb]; rfl
  obtain ⟨s, hs⟩ : ∃ s : Nat, i % 2 = (s : Int) := ⟨(i % 2).toNat, by omega⟩
  have hs2 : s < 2 := by omega
  have law := wrM_law (w := slW i R S (1 + i % 8)) (s := s) (core := i % 8) h.on h.n h.ok (by omega) (h.coh s (by rw [h.n]; omega)) (by omega) ⟨by omega, by omega⟩ h.cnt
  refine ⟨l8, wrA_eq rfl (by omega), ?_⟩
  rw [hs]
  generalize wrM (slW i R S (1 + i % 8)) m (i % 8) (s : Int) = W at *
  obtain ⟨p2, pon, pn, pok, pc, pcoh, pnow, poth⟩ := law
  have ps : (1 - i % 2).toNat ≠ s := by omega
  have pl : (1 - i % 2).toNat < 64 := by omega
  have cnt1 : ∀ j, j < 64 → W.1.g j 16 = 0 := fun j hj => by
    by_cases hjs : j = s
    · rw [hjs]; exact pc
    · rw [(poth j hj hjs).1]; exact h.cnt j hj
  have coh1 : W.1.Coh := fun j hj => by
    rw [pn] at hj
    by_cases hjs : j = s
    · rw [hjs]; exact pcoh
    · rw [(poth j hj hjs).1, (poth j hj hjs).2]; exact h.coh j (by rw [h.n]; exact hj)
  have hnew : ∀ c, c < 8 → W.1.g (i % 2).toNat c = slW i R S (1 + i % 8) c := fun c hc => by
    rw [show (i % 2).toNat = s by omega]; exact pnow c hc
  have hold : rdB (W.1.g (1 - i % 2).toNat) = false ∨ rdG (W.1.g (1 - i % 2).toNat) < i := by
    rw [(poth _ pl ps).1]; exact h.old
  have f1 := find_new pon pn hsb hnew hold
  have idle : ∀ j, j < 64 → (W.1.crM (fun _ => 0) 0).g j = W.1.g j := fun j hj => crM_idle (cnt1 j hj)
  have f2 : FdIs (W.1.crM (fun _ => 0) 0) i R S (1 + i % 8) (i % 2) := find_new crM_on pn hsb (fun c hc => by rw [idle _ (by omega)]; exact hnew c hc) (by rw [idle _ pl]; exact hold)
  rw [hs] at f1 f2
  refine ⟨p2, pok.mono (by omega), f1, f2, crM_on, pn, (crM_ok pok).mono (by omega), crM_coh coh1, fun j hj => by rw [idle j hj]; exact cnt1 j hj, .inr ?_⟩
  have es : (1 - (i + 1) % 2).toNat = s := by omega
  rw [es, idle s (by omega), (slW_rd hsb (fun c hc => pnow c hc)).2.1]
  omega

noncomputable def O_SuperTurns_6 (x0 x1 x2 x3 : Int) (m : Mem) : Tr (Ex × List At) :=
  .br 0 (pdec ((-9223372036854775808 ≤ x0 ∧ x0 ≤ 9223372036854775807) ∧ (-9223372036854775808 ≤ x1 ∧ x1 ≤ 9223372036854775807) ∧ (-9223372036854775808 ≤ x2 ∧ x2 ≤ 9223372036854775807) ∧ 1 ≤ x3 ∧ x3 ≤ 21 ∧ TuInv x3 m)) (.ok (.exit 0, [])) .no
noncomputable def OL_SuperTurns_6 (l : List At) : Tr (Ex × List At) := O_SuperTurns_6 (aI l 0) (aI l 1) (aI l 2) (aI l 3) ⟨aRn l 8, aRg l 8, aMh l 8 16 2, aB l 4, aB l 5, aI l 6, aI l 7⟩
def μ_SuperTurns_6 (l : List At) : Nat := (21 - aI l 3).toNat

theorem rd_SuperTurns_6 : ∀ l r, (OL_SuperTurns_6 l).val = some r → RoundS BL_SuperTurns_6 OL_SuperTurns_6 μ_SuperTurns_6 l r := by
  intro l r hh
  unfold OL_SuperTurns_6 at hh
  obtain ⟨hc, h⟩ := guard_val hh
  clear hh
  obtain ⟨h0, h1, h2, i1, i2, inv⟩ := of_pdec hc
  have hr := val_ok h
  subst hr
  unfold RoundS BL_SuperTurns_6 B_SuperTurns_6
  generalize hx0 : aI l 0 = x0 at *
  generalize hx1 : aI l 1 = x1 at *
  generalize hx2 : aI l 2 = x2 at *
  generalize hx3 : aI l 3 = x3 at *
  obtain ⟨k0, k1, k2⟩ := kind_in h0.1 h0.2 (n := 21) (by decide) (by decide)
  refine brT k0 (brD (fun hle => ?_) (fun hle => out_ (by simp) rfl (AtsEq.refl _)))
  obtain ⟨kr0, kr1, kr2⟩ := kind_in h1.1 h1.2 (n := 1024) (by decide) (by decide)
  obtain ⟨ks0, ks1, ks2⟩ := kind_in h2.1 h2.2 (n := 1000) (by decide) (by decide)
  have hw : IntKind.i64.wrap (1 + Int.tmod x3 8) = 1 + Int.tmod x3 8 := by
    have : Int.tmod x3 8 = x3 % 8 := Int.tmod_eq_emod_of_nonneg (by omega)
    exact wrap_i64 (by omega) (by omega)
  have hw1 : IntKind.i64.wrap (x3 + 1) = x3 + 1 := wrap_i64 (by omega) (by omega)
  obtain ⟨t8, tA, t2, tok, f1, f2, inv'⟩ := turn inv ⟨i1, by omega⟩ ⟨kr1, kr2⟩ ⟨ks1, ks2⟩
  have tA' := tA
  rw [← t8] at tA'
  have q1 : 1 ≤ x3 + 1 ∧ x3 + 1 ≤ 21 := by omega
  have hμ : (21 - (x3 + 1)).toNat < μ_SuperTurns_6 l := by unfold μ_SuperTurns_6; rw [hx3]; omega
  have hm : Mem.Ok 880000 ⟨aRn l 8, aRg l 8, aMh l 8 16 2, aB l 4, aB l 5, aI l 6, aI l 7⟩ := inv.ok.mono (by omega)
  refine brT kr0 (brT ks0 (brT (pdec_yes hm) (brT (sk _ _ _ _) ?_)))
  unfold SuperTurns_6_c5 SuperTurns_6_c4 SuperTurns_6_c3 SuperTurns_6_c2 SuperTurns_6_c1 SuperTurns_6_c0
  rw [hw, hw1, tA']
  generalize wrM (slW x3 (r_kind_0 x1 1024) (r_kind_0 x2 1000) (1 + Int.tmod x3 8)) ⟨aRn l 8, aRg l 8, aMh l 8 16 2, aB l 4, aB l 5, aI l 6, aI l 7⟩ (Int.tmod x3 8) (Int.tmod x3 2) = W at *
  obtain ⟨a, aC, a0, a1, a2, a3, a4⟩ := f1
  obtain ⟨b, bC, b0, b1, b2, b3, b4⟩ := f2
  refine brF (by rw [t2]; rfl) (brT a (brT (pdec_yes (tok.mono (by decide))) (brT (pdec_yes keepOk_nil) (brT b (brF (by rw [aC]; rfl) (brF (by rw [bC]; rfl) (brF ?_ (brF ?_ (brF (by rw [a4]; simp) (brF (by rw [a4, b4]; simp) ?_))))))))))
  · rw [a0, a1, a2, a3]; simp
  · rw [b0, b1, b2, b3]; simp
  · exact on_ _ (.exit 0, []) (AtsEq.refl _) hμ (br_t (g := 0) (pdec_yes ⟨h0, h1, h2, q1.1, q1.2, inv'⟩)) rfl (AtsEq.refl _)
end Go.Proofs.Ytgmhggipaopoiaa.G
end

/-
  What functions of the seat compute, printed by a program from the explorer.
-/
section
namespace Go.Proofs.Ytgmhggipaopoiaa.G
open Go Go.AM Go.Proofs
theorem f_SuperTurns_6 : LoopF Try.prog 0 (loopAt Try.f7 6) (loopFn 0 lsh_SuperTurns_6 xs_SuperTurns_6 OL_SuperTurns_6) :=
  loop_sat (sy := y_SuperTurns_6) (fuel := 100) (Lp := noLoops) o_R2 mixed (loopsOK_at (noLoops_ok _) 6) rfl eB_SuperTurns_6 rd_SuperTurns_6
noncomputable def Lp_SuperTurns_6 : Loops := Loops.set noLoops 6 (loopFn 0 lsh_SuperTurns_6 xs_SuperTurns_6 OL_SuperTurns_6)
theorem lk_SuperTurns_6 : LoopsFn Try.prog 0 Lp_SuperTurns_6 Try.f7 := loopsFn_set (noLoops_ok _) (by kernel_rfl) f_SuperTurns_6

/-! ### SuperTurns -/

noncomputable def ish_SuperTurns : FSh := ⟨[.v false [.k (.n .i64)], .v false [.k (.n .i64)], .v false [.k (.n .i64)]], []⟩
noncomputable def osh_SuperTurns : FSh := ⟨[.v false [.k .b]], []⟩
noncomputable def T_SuperTurns (x0 : Int) (x1 : Int) (x2 : Int) : Tr (List At) :=
 .br 0 (Bool.true)
 (.br 0 (Bool.false)
 (.ok [(.b (Bool.false))])
 (.br 0 (Go.Proofs.Ytgmhggipaopoiaa.G.pdec (((-9223372036854775808 : Int) ≤ x0 ∧ x0 ≤ (9223372036854775807 : Int)) ∧ ((-9223372036854775808 : Int) ≤ x1 ∧ x1 ≤ (9223372036854775807 : Int)) ∧ ((-9223372036854775808 : Int) ≤ x2 ∧ x2 ≤ (9223372036854775807 : Int)) ∧ (1 : Int) ≤ (1 : Int) ∧ (1 : Int) ≤ (21 : Int) ∧ Go.Proofs.Ytgmhggipaopoiaa.G.TuInv (1 : Int) (Go.Proofs.Ytgmhggipaopoiaa.G.newM (64 : Nat))))
 (.ok [(.b (Bool.true))])
 (.no)))
 (.no)
noncomputable def y_SuperTurns : Nat → Option Nat := (syOf3 [] [] [])
noncomputable def TL_SuperTurns (l : List At) : Tr (List At) := T_SuperTurns (aI l 0) (aI l 1) (aI l 2)
theorem e_SuperTurns (l : List At) : (call Try.prog Γ_R2 y_SuperTurns Lp_SuperTurns_6 100 Try.f7 (mkV ish_SuperTurns l) (mkH ish_SuperTurns l)).bind (leafO ish_SuperTurns.hp.length ⟨[.v false [.k .b]], List.replicate ish_SuperTurns.hp.length .no⟩) = TL_SuperTurns l := by kernel_rfl

end Go.Proofs.Ytgmhggipaopoiaa.G
end

/-
  The plain law of SuperTurns.
-/
section
namespace Go.Proofs.Ytgmhggipaopoiaa.G
open Go Go.AM Go.Proofs

theorem rdB_zero : rdB (fun _ => 0) = false := by
  have h : r_sRead_4 0 0 0 0 0 0 0 0 = false := by kernel_rfl
  exact h

theorem vc_SuperTurns (x0 x1 x2 : Int) (a0 : IntKind.min .i64 ≤ x0) (b0 : x0 ≤ IntKind.max .i64) (a1 : IntKind.min .i64 ≤ x1) (b1 : x1 ≤ IntKind.max .i64) (a2 : IntKind.min .i64 ≤ x2) (b2 : x2 ≤ IntKind.max .i64) :
    (T_SuperTurns x0 x1 x2).sat fun r => r = [.b true] := by
  have inv : TuInv 1 (newM 64) := ⟨newM_on 64, rfl, (newM_ok (by decide)).mono (by decide), newM_coh 64, fun _ _ => rfl, .inl rdB_zero⟩
  unfold T_SuperTurns
  exact brT rfl (brF rfl (brT (pdec_yes ⟨⟨a0, b0⟩, ⟨a1, b1⟩, ⟨a2, b2⟩, by decide, by decide, inv⟩) (Tr.sat_ok.2 rfl)))
end Go.Proofs.Ytgmhggipaopoiaa.G
end
