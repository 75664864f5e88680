/-
  Write, whenever the power goes off.
-/
import Derived.Test.YthpcjcdiaifoiaaL7ToV7
import Derived.Test.YthpcjcdiaifoiaaE6ToS9
import Derived.Test.YthpcjcdiaifoiaaCrcVToO11
section
namespace Go.Proofs.Ythpcjcdiaifoiaa.G
open Go Go.AM Go.Proofs

/-- The stores of a write: the last word's nought, then the words. -/
def ST (w : Nat → Int) (m : Nat) : Int := if m = 0 then 7 else if m = 1 then 0 else if m % 2 = 0 then ((m / 2 - 1 : Nat) : Int) else w (m / 2 - 1)

theorem ST_w (w : Nat → Int) (k : Nat) : ST w ((k + 1) * 2) = k ∧ ST w ((k + 1) * 2 + 1) = w k := by
  unfold ST
  rw [if_neg (by omega), if_neg (by omega), if_pos (by omega), if_neg (by omega), if_neg (by omega), if_neg (by omega), show (k + 1) * 2 / 2 - 1 = k by omega, show ((k + 1) * 2 + 1) / 2 - 1 = k by omega]
  exact ⟨rfl, rfl⟩

theorem apF_ST {s w : Nat → Int} : ∀ (k : Nat), k ≤ 8 → ∀ c, c < 8 → apF s (ST w) 0 (k + 1) c = if c < k then w c else if c = 7 then 0 else s c
  | 0, _, c, _ => by
    rw [apF_succ]
    show (if c = (ST w ((0 + 0) * 2)).toNat then ST w ((0 + 0) * 2 + 1) else s c) = _
    rw [if_neg (Nat.not_lt_zero c)]
    rfl
  | k + 1, hk, c, hc => by
    rw [apF_succ]
    show (if c = (ST w ((0 + (k + 1)) * 2)).toNat then ST w ((0 + (k + 1)) * 2 + 1) else apF s (ST w) 0 (k + 1) c) = _
    rw [Nat.zero_add, (ST_w w k).1, (ST_w w k).2, Int.toNat_natCast, apF_ST k (by omega) c hc]
    by_cases hck : c = k
    · subst hck
      rw [if_pos rfl, if_pos (Nat.lt_succ_self _)]
    · rw [if_neg hck]
      by_cases hlt : c < k
      · rw [if_pos hlt, if_pos (by omega)]
      · rw [if_neg hlt, if_neg (show ¬ c < k + 1 by omega)]

/-- The line 's' has 'j' of the stores, none of them sure; the other lines are as in 'M0'. -/
structure FzInv (M0 : Mem) (s : Nat) (w : Nat → Int) (j : Nat) (K : Int) (M : Mem) : Prop where
  n : M.n = 64
  ok : M.Ok K
  cnt : M.g s 16 = j
  sur : ∀ c, c < 8 → M.g s (8 + c) = M0.g s (8 + c)
  st : ∀ k, k < j → M.h s (k * 2) = ST w (k * 2) ∧ M.h s (k * 2 + 1) = ST w (k * 2 + 1)
  coh : Coh (M.g s) (M.h s)
  other : ∀ i, i ≠ s → M.g i = M0.g i ∧ M.h i = M0.h i

theorem FzInv.mono {M0 M : Mem} {s j : Nat} {w : Nat → Int} {K K' : Int} (h : FzInv M0 s w j K M) (hK : K ≤ K') : FzInv M0 s w j K' M := ⟨h.n, h.ok.mono hK, h.cnt, h.sur, h.st, h.coh, h.other⟩

theorem FzInv.stp {M0 M : Mem} {s j : Nat} {w : Nat → Int} {K : Int} (h : FzInv M0 s w j K M) : FzInv M0 s w j (K + 1) M.stp := ⟨h.n, stp_ok h.ok, h.cnt, h.sur, h.st, h.coh, h.other⟩

theorem fz_step {M0 M : Mem} {s j : Nat} {w : Nat → Int} {K : Int} {wd v : Int} (h : FzInv M0 s w j K M) (hs : s < 64) (hwd : 0 ≤ wd ∧ wd < 8) (h1 : ST w (j * 2) = wd) (h2 : ST w (j * 2 + 1) = v) (hK : K < 1000000) :
    (M.stC (s : Int) wd = 0 ∧ FzInv M0 s w (j + 1) (K + 1) (M.stM (s : Int) wd v)) ∨ (M.stC (s : Int) wd ≠ 0 ∧ FzInv M0 s w j (K + 1) (M.stM (s : Int) wd v)) := by
  have hb : M.bad (s : Int) wd = false := bad_of ⟨by omega, by rw [h.n]; omega, hwd.1, hwd.2⟩
  have es : (s : Int).toNat = s := Int.toNat_natCast s
  have hok := stM_ok (i := (s : Int)) (w := wd) (v := v) h.ok hK
  unfold Mem.stC
  rw [hb]
  cases hp : M.po with
  | true =>
    have e : M.stM (s : Int) wd v = M.stp := by unfold Mem.stM; rw [hb, hp]; rfl
    rw [e]
    exact .inr ⟨by show M.cod ≠ 0; rw [po_cod4 hp]; decide, h.stp⟩
  | false =>
    have e : M.stM (s : Int) wd v = M.stp.wit (updR M.g s (stR (M.g s) wd.toNat v)) (updR M.h s (stH (M.h s) (M.g s 16).toNat wd v)) := by unfold Mem.stM; rw [hb, hp, es]; rfl
    refine .inl ⟨po_cod hp, ?_⟩
    have hc : (M.g s 16).toNat = j := by rw [h.cnt, Int.toNat_natCast]
    have eg : (M.stM (s : Int) wd v).g = updR M.g s (stR (M.g s) wd.toNat v) := by rw [e]; rfl
    have eh : (M.stM (s : Int) wd v).h = updR M.h s (stH (M.h s) j wd v) := by rw [e, ← hc]; rfl
    refine ⟨by rw [stM_n]; exact h.n, hok, ?_, fun c hc' => ?_, fun k hk => ?_, ?_, fun i hi => ?_⟩
    · rw [eg, updR_self]
      have : stR (M.g s) wd.toNat v 16 = M.g s 16 + 1 := if_pos rfl
      rw [this, h.cnt]; omega
    · rw [eg, updR_self]
      unfold stR
      rw [if_neg (by omega), if_neg (by omega)]
      exact h.sur c hc'
    · rw [eh, updR_self]
      unfold stH
      by_cases hkj : k = j
      · subst hkj
        rw [if_pos rfl, if_neg (by omega), if_pos rfl, h1, h2]
        exact ⟨rfl, rfl⟩
      · rw [if_neg (by omega), if_neg (by omega), if_neg (by omega), if_neg (by omega)]
        exact h.st k (by omega)
    · rw [eg, eh, updR_self, updR_self, ← hc]
      exact coh_st h.coh (h.ok.2.2.2.2 s (by rw [h.n]; exact hs)).1.1 hwd
    · rw [eg, eh, updR_ne hi, updR_ne hi]
      exact h.other i hi

theorem fz_all {M0 : Mem} {s : Nat} {w : Nat → Int} (hs : s < 64) : ∀ (k i : Nat) (M : Mem) (K : Int), FzInv M0 s w (i + 1) K M → i + k = 8 → K + k ≤ 900000 →
    ((stL w (s : Int) k i M).2 = 0 ∧ FzInv M0 s w 9 (K + k) (stL w (s : Int) k i M).1) ∨ ((stL w (s : Int) k i M).2 ≠ 0 ∧ ∃ j, j ≤ 9 ∧ FzInv M0 s w j (K + k) (stL w (s : Int) k i M).1)
  | 0, i, M, K, h, hik, _ => by
    obtain rfl : i = 8 := by omega
    exact .inl ⟨rfl, h.mono (by omega)⟩
  | k + 1, i, M, K, h, hik, hK => by
    rw [stL]
    rcases fz_step (wd := (i : Int)) (v := w i) h hs ⟨by omega, by omega⟩ (ST_w w i).1 (ST_w w i).2 (by omega) with ⟨c, f⟩ | ⟨c, f⟩
    · rw [if_pos c]
      have := fz_all hs k (i + 1) _ (K + 1) f (by omega) (by omega)
      rw [show K + ((k + 1 : Nat) : Int) = K + 1 + k by omega]
      exact this
    · rw [if_neg c]
      exact .inr ⟨c, i + 1, by omega, f.mono (by omega)⟩

/-- What was written whole. -/
structure Whole (M0 : Mem) (s : Nat) (w : Nat → Int) (K : Int) (M : Mem) : Prop where
  n : M.n = 64
  ok : M.Ok K
  cnt : M.g s 16 = 0
  coh : Coh (M.g s) (M.h s)
  now : ∀ c, c < 8 → M.g s c = w c
  other : ∀ i, i < 64 → i ≠ s → M.g i = M0.g i ∧ M.h i = M0.h i

theorem wrM_any {M0 : Mem} {s : Nat} {core K : Int} {w : Nat → Int} (hn : M0.n = 64) (hok : M0.Ok K) (hK : K ≤ 800000) (hcoh : Coh (M0.g s) (M0.h s)) (hs : s < 64) (hcore : 0 ≤ core ∧ core < 8) (hcnt : ∀ j, j < 64 → M0.g j 16 = 0) :
    ((wrM w M0 core (s : Int)).2 = 0 ∧ Whole M0 s w (K + 11) (wrM w M0 core (s : Int)).1) ∨ ((wrM w M0 core (s : Int)).2 ≠ 0 ∧ ∃ j, j ≤ 9 ∧ FzInv M0 s w j (K + 11) (wrM w M0 core (s : Int)).1) := by
  have es : (s : Int).toNat = s := Int.toNat_natCast s
  have inv0 : FzInv M0 s w 0 K M0 := ⟨hn, hok, hcnt s hs, fun _ _ => rfl, fun k hk => absurd hk (Nat.not_lt_zero _), hcoh, fun _ _ => ⟨rfl, rfl⟩⟩
  unfold wrM
  rcases fz_step (wd := 7) (v := 0) inv0 hs ⟨by decide, by decide⟩ rfl rfl (by omega) with ⟨c, f⟩ | ⟨c, f⟩
  · rw [if_neg (fun hh => hh c)]
    rcases fz_all hs 8 0 _ (K + 1) f (by decide) (by omega) with ⟨c2, f2⟩ | ⟨c2, j, hj, f2⟩
    · rw [if_neg (fun hh => hh c2)]
      generalize (stL w (s : Int) 8 0 (M0.stM (s : Int) 7 0)).1 = M at *
      have f2 : FzInv M0 s w 9 (K + 9) M := f2.mono (by omega)
      have hb1 : M.bad (s : Int) core = false := bad_of ⟨by omega, by rw [f2.n]; omega, hcore.1, hcore.2⟩
      have sc : M.stC (s : Int) core = M.cod := by unfold Mem.stC; rw [hb1]; rfl
      rw [sc]
      cases hp : M.po with
      | true =>
        have e1 : M.flM core (s : Int) = M.stp := by unfold Mem.flM; rw [hb1, hp]; rfl
        have c4 : M.cod ≠ 0 := by rw [po_cod4 hp]; decide
        rw [if_pos c4, e1]
        exact .inr ⟨c4, 9, by decide, f2.stp.mono (by omega)⟩
      | false =>
        have c0 : ¬ M.cod ≠ 0 := by rw [po_cod hp]; decide
        rw [if_neg c0]
        have e1 : M.flM core (s : Int) = M.stp.wit (updR M.g s (flR (M.g s) core.toNat)) M.h := by unfold Mem.flM; rw [hb1, hp, es]; rfl
        have k1 : (M.flM core (s : Int)).Ok (K + 10) := (flM_ok f2.ok).mono (by omega)
        have g1 : (M.flM core (s : Int)).g = updR M.g s (flR (M.g s) core.toNat) := by rw [e1]; rfl
        have h1 : (M.flM core (s : Int)).h = M.h := by rw [e1]; rfl
        have n1 : (M.flM core (s : Int)).n = 64 := flM_n.trans f2.n
        generalize M.flM core (s : Int) = M1 at *
        have gs : M1.g s = flR (M.g s) core.toNat := by rw [g1, updR_self]
        have f3 : FzInv M0 s w 9 (K + 10) M1 := ⟨n1, k1, by rw [gs, flR_lo (by omega)]; exact f2.cnt, fun c hc => by rw [gs, flR_lo (by omega)]; exact f2.sur c hc, fun k hk => by rw [h1]; exact f2.st k hk, by rw [gs, h1]; exact coh_fl f2.coh, fun i hi => by rw [g1, h1, updR_ne hi]; exact f2.other i hi⟩
        have fl1 : M1.g s (17 + core.toNat) = 9 := by
          have a : flR (M.g s) core.toNat (17 + core.toNat) = M.g s 16 := if_pos rfl
          rw [gs, a, f2.cnt]; rfl
        have hcb := corB_of hcore
        have fc : M1.feC core = M1.cod := by unfold Mem.feC; rw [hcb]; rfl
        rw [fc]
        cases hp1 : M1.po with
        | true =>
          have e2 : M1.feM core = M1.stp := by unfold Mem.feM; rw [hcb, hp1]; rfl
          rw [e2]
          exact .inr ⟨by show M1.cod ≠ 0; rw [po_cod4 hp1]; decide, 9, by decide, f3.stp.mono (by omega)⟩
        | false =>
          have e2 : M1.feM core = M1.stp.wit (feG M1.n M1.g M1.h (17 + core.toNat) 0) (feH M1.n M1.g M1.h (17 + core.toNat) 0) := by unfold Mem.feM; rw [hcb, hp1]; rfl
          have k2 : (M1.feM core).Ok (K + 11) := (feM_ok k1).mono (by omega)
          have eg2 : (M1.feM core).g s = rowS (M1.g s) (M1.h s) 9 := by
            rw [e2]
            show feG M1.n M1.g M1.h (17 + core.toNat) 0 s = _
            unfold feG
            rw [fl1, if_pos ⟨Nat.zero_le _, by omega, by decide⟩]
            rfl
          have eh2 : (M1.feM core).h s = hS (M1.h s) 9 := by
            rw [e2]
            show feH M1.n M1.g M1.h (17 + core.toNat) 0 s = _
            unfold feH
            rw [fl1, if_pos ⟨Nat.zero_le _, by omega, by decide⟩]
            rfl
          have oth : ∀ i, i < 64 → i ≠ s → (M1.feM core).g i = M0.g i ∧ (M1.feM core).h i = M0.h i := fun i hi his => by
            obtain ⟨a1, a2⟩ := f3.other i his
            have := feM_idle (c := core) (k1.2.2.2.2 i (by rw [n1]; exact hi)).1 (by rw [a1]; exact hcnt i hi)
            rw [a1, a2] at this
            exact this
          refine .inl ⟨po_cod hp1, feM_n.trans n1, k2, by rw [eg2, rowS16, f3.cnt]; rfl, by rw [eg2, eh2]; exact coh_rowS f3.coh (by rw [f3.cnt]; decide), fun c hc => ?_, oth⟩
          rw [eg2, rowS_now hc, f3.coh c hc, f3.cnt]
          have hst : apF (sur (M1.g s)) (M1.h s) 0 9 c = apF (sur (M1.g s)) (ST w) 0 9 c := apF_pt 9 0 _ _ _ _ rfl fun k _ hk => f3.st k (by omega)
          show apF (sur (M1.g s)) (M1.h s) 0 9 c = w c
          rw [hst, apF_ST 8 (by decide) c hc, if_pos hc]
    · rw [if_pos c2]
      exact .inr ⟨c2, j, hj, f2.mono (by omega)⟩
  · rw [if_pos c]
    exact .inr ⟨c, 0, by decide, f.mono (by omega)⟩

/-- Behind a crash the line has some first stores. -/
theorem fz_crash {M0 M : Mem} {s j : Nat} {w : Nat → Int} {K : Int} {q : Nat → Int} {kn : Nat} (h : FzInv M0 s w j K M) (hs : s < 64) : ∃ k, k ≤ j ∧ ∀ c, c < 8 → (M.crM q kn).g s c = apF (sur (M0.g s)) (ST w) 0 k c := by
  have hap : ∀ k, k ≤ j → ∀ c, c < 8 → apF (sur (M.g s)) (M.h s) 0 k c = apF (sur (M0.g s)) (ST w) 0 k c := fun k hk c hc => apF_pt k 0 _ _ _ _ (h.sur c hc) fun i _ hi => h.st i (by omega)
  have hcn : (M.g s 16).toNat = j := by rw [h.cnt, Int.toNat_natCast]
  show ∃ k, k ≤ j ∧ ∀ c, c < 8 → crG M.n M.g M.h q kn 0 s c = _
  unfold crG
  by_cases hp : 0 ≤ s ∧ s < M.n ∧ M.g s 16 > 0
  · rw [if_pos hp]
    have hle : crK q kn (cntU M.g 0 (s - 0)) (M.g s 16) ≤ j := by
      unfold crK
      have := Int.emod_nonneg (kv q kn (cntU M.g 0 (s - 0))) (show M.g s 16 + 1 ≠ 0 by omega)
      have := Int.emod_lt_of_pos (kv q kn (cntU M.g 0 (s - 0))) (show 0 < M.g s 16 + 1 by omega)
      omega
    exact ⟨_, hle, fun c hc => by rw [crR_now hc]; exact hap _ hle c hc⟩
  · rw [if_neg hp]
    have : j = 0 := by
      have := h.n
      have := h.cnt
      omega
    subst this
    exact ⟨0, Nat.le_refl _, fun c hc => by rw [h.coh c hc, hcn]; exact hap 0 (Nat.le_refl _) c hc⟩
end Go.Proofs.Ythpcjcdiaifoiaa.G
end

/-
  The log: which record each line holds.
-/
section
namespace Go.Proofs.Ythpcjcdiaifoiaa.G
open Go Go.AM Go.Proofs

def LineIs (r : Nat → Int) (o : Option (List Int)) : Prop := match o with | none => lrB r = false | some x => lrB r = true ∧ recOf r = x

theorem LineIs.congr {r r' : Nat → Int} {o : Option (List Int)} (h : LineIs r o) (e : ∀ c, c < 8 → r' c = r c) : LineIs r' o := by
  have e0 := e 0 (by decide)
  have e1 := e 1 (by decide)
  have e2 := e 2 (by decide)
  have e3 := e 3 (by decide)
  have e4 := e 4 (by decide)
  have e5 := e 5 (by decide)
  have e6 := e 6 (by decide)
  have e7 := e 7 (by decide)
  have k : lrB r' = lrB r := by unfold lrB; rw [e0, e1, e2, e3, e4, e5, e6, e7]
  have k2 : recOf r' = recOf r := by unfold recOf lr0 lr1 lr2 lr3; rw [e0, e1, e2, e3, e4, e5, e6, e7]
  unfold LineIs at h ⊢
  rw [k, k2]
  exact h

theorem lineIs_zero : LineIs (fun _ => 0) none := by
  show lrB (fun _ => 0) = false
  cases hb : lrB (fun _ => 0) with
  | false => rfl
  | true =>
    have := (lread_of hb).1
    revert this
    decide

theorem lineIs_line {x0 x1 x2 x3 : Int} (hr : rb x0 x1 x2 = true) : LineIs (llW x0 x1 x2 x3) (some [x0, x1, x2, x3]) := by
  obtain ⟨q4, q0, q1, q2, q3⟩ := lread_line (x3 := x3) hr
  refine ⟨q4, ?_⟩
  show [_, _, _, _] = _
  unfold lr0 lr1 lr2 lr3
  show [r_lRead_0 _ _ _ _ _ _ _ _, r_lRead_1 _ _ _ _ _ _ _ _, r_lRead_2 _ _ _ _ _ _ _ _, r_lRead_3 _ _ _ _ _ _ _ _] = _
  rw [show llW x0 x1 x2 x3 0 = r_lLine_0 x0 x1 x2 x3 from rfl, show llW x0 x1 x2 x3 1 = r_lLine_1 x0 x1 x2 x3 from rfl, show llW x0 x1 x2 x3 2 = r_lLine_2 x0 x1 x2 x3 from rfl, show llW x0 x1 x2 x3 3 = r_lLine_3 x0 x1 x2 x3 from rfl, show llW x0 x1 x2 x3 4 = r_lLine_4 x0 x1 x2 x3 from rfl, show llW x0 x1 x2 x3 5 = r_lLine_5 x0 x1 x2 x3 from rfl, show llW x0 x1 x2 x3 6 = r_lLine_6 x0 x1 x2 x3 from rfl, show llW x0 x1 x2 x3 7 = r_lLine_7 x0 x1 x2 x3 from rfl, q0, q1, q2, q3]

structure LogInv (S : Nat → Option (List Int)) (K : Int) (M : Mem) : Prop where
  n : M.n = 64
  ok : M.Ok K
  cnt : ∀ j, j < 64 → M.g j 16 = 0
  coh : ∀ j, j < 64 → Coh (M.g j) (M.h j)
  is : ∀ j, j < 64 → LineIs (M.g j) (S j)

theorem log_new : LogInv (fun _ => none) 0 (newM 64) := ⟨rfl, newM_ok (by decide), fun _ _ => rfl, fun _ _ _ _ => rfl, fun _ _ => lineIs_zero⟩

def slotOk (s : Int) (o : Option (List Int)) : Bool := match o with | none => true | some x => decide (rkey x ≤ s)
def freeS (S : Nat → Option (List Int)) (s : Int) : Nat → Nat → Option Nat
  | 0, _ => none
  | k + 1, i => bif slotOk s (S i) then some i else freeS S s k (i + 1)
def putL (S : Nat → Option (List Int)) (c : Nat) (s : Int) (x : List Int) : (Nat → Option (List Int)) × Int :=
  match freeS S s 4 (2 + 4 * c) with
  | none => (S, 11)
  | some j => (fun i => if i = j then some x else S i, 0)

theorem freeS_in {S : Nat → Option (List Int)} {s : Int} : ∀ {k i j : Nat}, freeS S s k i = some j → i ≤ j ∧ j < i + k ∧ slotOk s (S j) = true
  | 0, i, j, h => by cases h
  | k + 1, i, j, h => by
    rw [freeS] at h
    cases hk : slotOk s (S i) with
    | true =>
      rw [hk] at h
      have : i = j := by simpa using h
      subst this
      exact ⟨Nat.le_refl _, by omega, hk⟩
    | false =>
      rw [hk] at h
      obtain ⟨a, b, c⟩ := freeS_in (k := k) (i := i + 1) h
      exact ⟨by omega, by omega, c⟩

section
variable {S : Nat → Option (List Int)} {K : Int} {M : Mem}

theorem ldC_at (h : LogInv S K M) (ho : M.off = false) {j : Nat} (hj : j < 64) : M.ldC (j : Int) = 0 := by
  unfold Mem.ldC
  rw [decide_eq_false (by omega), decide_eq_false (by rw [h.n]; omega), ho]
  rfl
theorem ln_at (h : LogInv S K M) (ho : M.off = false) {j : Nat} (hj : j < 64) : M.ln (j : Int) = M.g j := by
  funext c
  unfold Mem.ln Mem.ldW
  rw [ldC_at h ho hj, Int.toNat_natCast]
  rfl

theorem frOk_at (h : LogInv S K M) (ho : M.off = false) {j : Nat} (hj : j < 64) (s : Int) : frOk M s (j : Int) = slotOk s (S j) := by
  unfold frOk
  rw [ln_at h ho hj]
  have := h.is j hj
  unfold slotOk
  cases hS : S j with
  | none =>
    rw [hS] at this
    have this : lrB (M.g j) = false := this
    rw [this]; rfl
  | some x =>
    rw [hS] at this
    obtain ⟨a, b⟩ := this
    rw [a]
    show decide (lr0 (M.g j) ≤ s) = decide (rkey x ≤ s)
    rw [← b]
    rfl

theorem frL_at (h : LogInv S K M) (ho : M.off = false) (s : Int) : ∀ (k i : Nat), i + k ≤ 64 → frL M s k (i : Int) = match freeS S s k i with | none => (false, 0, 0) | some j => (true, 0, (j : Int))
  | 0, _, _ => rfl
  | k + 1, i, hi => by
    rw [frL, freeS, ldC_at h ho (by omega), frOk_at h ho (by omega)]
    cases slotOk s (S i) with
    | true => rfl
    | false => exact frL_at h ho s k (i + 1) (by omega)

theorem free_none (h : LogInv S K M) (ho : M.off = false) {s : Int} {c : Nat} (hc : c < 8) (hf : freeS S s 4 (2 + 4 * c) = none) : faC M (c : Int) s = 11 := by
  have e := frL_at h ho s 4 (2 + 4 * c) (by omega)
  rw [hf] at e
  unfold faC coreB
  rw [decide_eq_false (by omega), decide_eq_false (by omega), show (2 + 4 * (c : Int)) = ((2 + 4 * c : Nat) : Int) by omega, e]
  rfl
theorem free_some (h : LogInv S K M) (ho : M.off = false) {s : Int} {c j : Nat} (hc : c < 8) (hf : freeS S s 4 (2 + 4 * c) = some j) : faC M (c : Int) s = 0 ∧ faA M (c : Int) s = (j : Int) := by
  have e := frL_at h ho s 4 (2 + 4 * c) (by omega)
  rw [hf] at e
  have hj := (freeS_in hf).1
  unfold faC faA coreB
  rw [decide_eq_false (by omega), decide_eq_false (by omega), show (2 + 4 * (c : Int)) = ((2 + 4 * c : Nat) : Int) by omega, e]
  refine ⟨?_, rfl⟩
  show (bif ((j : Int) == 0) then (11 : Int) else 0) = 0
  rw [show ((j : Int) == 0) = false by rw [beq_eq_false_iff_ne]; omega]
  rfl

theorem app_law (h : LogInv S K M) (hon : M.on) (hK : K ≤ 800000) {c : Nat} (hc : c < 8) {s x0 x1 x2 x3 : Int} (hr : rb x0 x1 x2 = true) :
    (rapA (llW x0 x1 x2 x3) 0 M (c : Int) s).2 = (putL S c s [x0, x1, x2, x3]).2 ∧ (rapA (llW x0 x1 x2 x3) 0 M (c : Int) s).1.on ∧ LogInv (putL S c s [x0, x1, x2, x3]).1 (K + 11) (rapA (llW x0 x1 x2 x3) 0 M (c : Int) s).1 := by
  unfold rapA putL
  cases hf : freeS S s 4 (2 + 4 * c) with
  | none =>
    rw [free_none h hon.1 hc hf]
    exact ⟨rfl, hon, h.n, h.ok.mono (by omega), h.cnt, h.coh, h.is⟩
  | some j =>
    obtain ⟨f1, f2⟩ := free_some h hon.1 hc hf
    obtain ⟨i1, i2, _⟩ := freeS_in hf
    rw [f1, f2]
    show (wrM (llW x0 x1 x2 x3) M (c : Int) (j : Int)).2 = 0 ∧ (wrM (llW x0 x1 x2 x3) M (c : Int) (j : Int)).1.on ∧ LogInv (fun i => if i = j then some [x0, x1, x2, x3] else S i) (K + 11) (wrM (llW x0 x1 x2 x3) M (c : Int) (j : Int)).1
    obtain ⟨w1, w2, w3, w4, w5, w6, w7, w8⟩ := wrM_law (core := (c : Int)) (w := llW x0 x1 x2 x3) hon h.n h.ok hK (h.coh j (by omega)) (by omega) ⟨by omega, by omega⟩ h.cnt
    refine ⟨w1, w2, w3, w4, fun i hi => ?_, fun i hi => ?_, fun i hi => ?_⟩
    · by_cases hij : i = j
      · rw [hij]; exact w5
      · rw [(w8 i hi hij).1]; exact h.cnt i hi
    · by_cases hij : i = j
      · rw [hij]; exact w6
      · rw [(w8 i hi hij).1, (w8 i hi hij).2]; exact h.coh i hi
    · by_cases hij : i = j
      · subst hij
        show LineIs _ (if i = i then _ else _)
        rw [if_pos rfl]
        exact (lineIs_line hr).congr w7
      · show LineIs _ (if i = j then _ else _)
        rw [if_neg hij, (w8 i hi hij).1]
        exact h.is i hi

theorem scC_at (h : LogInv S K M) (ho : M.off = false) : ∀ (k i : Nat), i + k ≤ 64 → scC M k (i : Int) = 0
  | 0, _, _ => rfl
  | k + 1, i, hi => by
    rw [scC, ldC_at h ho (by omega)]
    exact scC_at h ho k (i + 1) (by omega)
def scS (S : Nat → Option (List Int)) : Nat → Nat → List (List Int)
  | 0, _ => []
  | k + 1, i => match S i with | none => scS S k (i + 1) | some x => x :: scS S k (i + 1)
theorem scR_at (h : LogInv S K M) (ho : M.off = false) : ∀ (k i : Nat), i + k ≤ 64 → scR M k (i : Int) = scS S k i
  | 0, _, _ => rfl
  | k + 1, i, hi => by
    rw [scR, ldC_at h ho (by omega), ln_at h ho (by omega), scS]
    have hk := scR_at h ho k (i + 1) (by omega)
    have := h.is i (by omega)
    cases hS : S i with
    | none =>
      rw [hS] at this
      have this : lrB (M.g i) = false := this
      rw [this]
      exact hk
    | some x =>
      rw [hS] at this
      obtain ⟨a, b⟩ := this
      rw [a, b]
      show x :: scR M k ((i + 1 : Nat) : Int) = x :: scS S k (i + 1)
      rw [hk]
theorem scan_at (h : LogInv S K M) (ho : M.off = false) {k : Nat} (hk : 1 ≤ k) (hk8 : k ≤ 8) : scanC M (k : Int) = 0 ∧ scanL M (k : Int) = isort (scS S (4 * k) 2) ∧ (scR M (4 * (k : Int)).toNat 2) = scS S (4 * k) 2 := by
  have e1 := scC_at h ho (4 * k) 2 (by omega)
  have e2 := scR_at h ho (4 * k) 2 (by omega)
  have e : (4 * (k : Int)).toNat = 4 * k := by omega
  unfold scanC scanL coresB
  rw [decide_eq_false (by omega), decide_eq_false (by omega), e]
  have e1 : scC M (4 * k) 2 = 0 := e1
  have e2 : scR M (4 * k) 2 = scS S (4 * k) 2 := e2
  rw [e1, e2]
  exact ⟨rfl, rfl, rfl⟩
end
end Go.Proofs.Ythpcjcdiaifoiaa.G
end

/-
  The plain law of RlogAgain.
-/
section
namespace Go.Proofs.Ythpcjcdiaifoiaa.G
open Go Go.AM Go.Proofs

theorem kind_ok {x n : Int} (hn : 0 < n) : ok_kind x n = true := by
  unfold ok_kind
  have : (n != 0) = true := by rw [bne_iff_ne]; omega
  rw [this]
  cases decide (x < 0) <;> rfl

theorem kind_lo {x n : Int} (h0 : -9223372036854775808 ≤ x) (h1 : x ≤ 9223372036854775807) (hn : 0 < n) : 0 ≤ r_kind_0 x n ∧ r_kind_0 x n < n := by
  unfold r_kind_0
  have hb : (n != 0) = true := by rw [bne_iff_ne]; omega
  rw [hb]
  by_cases hx : x < 0
  · simp only [hx, decide_true, cond_true]
    rw [wrap_i64 (x := x + 1) (by omega) (by omega), wrap_i64 (by omega) (by omega)]
    exact ⟨Int.tmod_nonneg n (by omega), Int.tmod_lt_of_pos _ hn⟩
  · simp only [hx, decide_false, cond_true, cond_false]
    exact ⟨Int.tmod_nonneg n (by omega), Int.tmod_lt_of_pos _ hn⟩

def agS (c : Nat) : Nat → Nat → Option (List Int)
  | 0 => fun _ => none
  | i + 1 => (putL (agS c i) c 0 [(i : Int) + 1, 0, 0, 0]).1
def agL (c k : Nat) : List (List Int) := isort (scS (putL (agS c 4) c k [9, 0, 0, 0]).1 32 2)
theorem ag_ok : ∀ c, c < 8 → (∀ i, i < 4 → (putL (agS c i) c 0 [(i : Int) + 1, 0, 0, 0]).2 = 0) := by decide
theorem ag_len : ∀ c, c < 8 → ∀ k, k < 7 → (agL c k).length = 4 ∧ (scS (putL (agS c 4) c k [9, 0, 0, 0]).1 32 2).length < 20 := by decide
theorem ag_zero : ∀ c, c < 8 → (putL (agS c 4) c 0 [9, 0, 0, 0]).2 = 11 := by decide
theorem ag_more : ∀ c, c < 8 → ∀ k : Nat, k < 7 → 0 < k → (putL (agS c 4) c k [9, 0, 0, 0]).2 = 0 ∧ lsF (agL c k) 0 0 = 2 ∧ lsF (agL c k) 3 0 = 9 := by decide

theorem vc_RlogAgain (x0 x1 : Int) (h0 : IntKind.min .i64 ≤ x0) (k0 : x0 ≤ IntKind.max .i64) (h1 : IntKind.min .i64 ≤ x1) (k1 : x1 ≤ IntKind.max .i64) :
    (T_RlogAgain x0 x1).sat fun r => r = [.b true] := by
  have hc := kind_lo (x := x0) (n := 8) h0 k0 (by decide)
  have hk := kind_lo (x := x1) (n := 7) h1 k1 (by decide)
  unfold T_RlogAgain
  refine brF rfl (brT (kind_ok (by decide)) (brT (kind_ok (by decide)) ?_))
  obtain ⟨c, ec⟩ : ∃ c : Nat, r_kind_0 x0 8 = (c : Int) := ⟨(r_kind_0 x0 8).toNat, by omega⟩
  obtain ⟨k, ek⟩ : ∃ k : Nat, r_kind_0 x1 7 = (k : Int) := ⟨(r_kind_0 x1 7).toNat, by omega⟩
  rw [ec, ek]
  rw [ec] at hc
  rw [ek] at hk
  have hc8 : c < 8 := by omega
  have hk7 : k < 7 := by omega
  have i0 : LogInv (agS c 0) 0 (newM 64) := log_new
  have o0 := newM_on 64
  have app : ∀ (i : Nat) (x : Int) (M : Mem) (K : Int), i < 4 → (i : Int) + 1 = x → LogInv (agS c i) K M → M.on → K ≤ 800000 → rb x 0 0 = true → (rapA (llW x 0 0 0) 0 M (c : Int) 0).2 = 0 ∧ (rapA (llW x 0 0 0) 0 M (c : Int) 0).1.on ∧ LogInv (agS c (i + 1)) (K + 11) (rapA (llW x 0 0 0) 0 M (c : Int) 0).1 := by
    intro i x M K hi hx hM hon hK hr
    have := app_law (s := 0) (x3 := 0) hM hon hK hc8 hr
    rw [← hx] at this ⊢
    rw [ag_ok c hc8 i hi] at this
    exact this
  refine brT (pdec_yes (i0.ok.mono (by decide))) ?_
  obtain ⟨a1, o1, i1⟩ := app 0 1 _ _ (by decide) rfl i0 o0 (by decide) (by decide)
  generalize hM1 : (rapA (llW 1 0 0 0) 0 (newM 64) (c : Int) 0) = M1 at *
  refine brF (by rw [a1]; rfl) (brT (pdec_yes (i1.ok.mono (by decide))) ?_)
  obtain ⟨a2, o2, i2⟩ := app 1 2 _ _ (by decide) rfl i1 o1 (by decide) (by decide)
  generalize hM2 : (rapA (llW 2 0 0 0) 0 M1.1 (c : Int) 0) = M2 at *
  refine brF (by rw [a2]; rfl) (brT (pdec_yes (i2.ok.mono (by decide))) ?_)
  obtain ⟨a3, o3, i3⟩ := app 2 3 _ _ (by decide) rfl i2 o2 (by decide) (by decide)
  generalize hM3 : (rapA (llW 3 0 0 0) 0 M2.1 (c : Int) 0) = M3 at *
  refine brF (by rw [a3]; rfl) (brT (pdec_yes (i3.ok.mono (by decide))) ?_)
  obtain ⟨a4, o4, i4⟩ := app 3 4 _ _ (by decide) rfl i3 o3 (by decide) (by decide)
  generalize hM4 : (rapA (llW 4 0 0 0) 0 M3.1 (c : Int) 0) = M4 at *
  refine brF (by rw [a4]; rfl) (brT (pdec_yes (i4.ok.mono (by decide))) ?_)
  obtain ⟨a5, o5, i5⟩ := app_law (s := (k : Int)) i4 o4 (by decide) hc8 (x0 := 9) (x1 := 0) (x2 := 0) (x3 := 0) (by decide)
  generalize hM5 : (rapA (llW 9 0 0 0) 0 M4.1 (c : Int) (k : Int)) = M5 at *
  obtain ⟨s1, s2, s3⟩ := scan_at i5 o5.1 (k := 8) (by decide) (by decide)
  have s1 : scanC M5.1 8 = 0 := s1
  have s2 : scanL M5.1 8 = agL c k := s2
  have s3 : scR M5.1 32 2 = scS (putL (agS c 4) c k [9, 0, 0, 0]).1 32 2 := s3
  have hl := ag_len c hc8 k hk7
  refine brT (pdec_yes ?_) ?_
  · first
    | exact Nat.lt_of_eq_of_lt (congrArg _ s3) hl.2
    | (rw [s3]; exact hl.2)
  rw [s1, s2, a5]
  by_cases hz : k = 0
  · subst hz
    refine brT rfl (brT ?_ (brT rfl (Tr.sat_ok.2 ?_)))
    · show ((putL (agS c 4) c 0 [9, 0, 0, 0]).2 == 11) = true
      rw [ag_zero c hc8]; rfl
    · rw [hl.1]; rfl
  · obtain ⟨m1, m2, m3⟩ := ag_more c hc8 k hk7 (by omega)
    refine brF (by rw [beq_eq_false_iff_ne]; omega) (brT ?_ (brT rfl (brT ?_ (brT ?_ (brT ?_ (brT ?_ (Tr.sat_ok.2 ?_)))))))
    · rw [m1]; rfl
    · rw [hl.1]; rfl
    · rw [hl.1]; rfl
    · exact (by rw [m2]; rfl)
    · rw [hl.1]; rfl
    · exact congrArg (fun x => [At.b x]) (by rw [m3]; rfl)
end Go.Proofs.Ythpcjcdiaifoiaa.G
end

/-
  The plain law of RlogSpoilt.
-/
section
namespace Go.Proofs.Ythpcjcdiaifoiaa.G
open Go Go.AM Go.Proofs

theorem lread_good {y0 y1 y2 y3 y4 y5 y6 y7 : Int} (h4 : 0 ≤ y4) (h : r_lRead_4 y0 y1 y2 y3 y4 y5 y6 y7 = true) : r_crcGood_0 y0 y1 y2 y3 y4 y5 y6 y7 = true := by
  obtain ⟨hb, e0, e1, e2, e3, e4, e5, e6, e7⟩ := lread_of h
  have := lline_good h4 hb
  rw [e0, e1, e2, e3, e4, e5, e6, e7] at this
  exact this

theorem vc_RlogSpoilt (x0 x1 x2 x3 x4 x5 : Int) (_ : IntKind.min .i64 ≤ x0) (_ : x0 ≤ IntKind.max .i64) (_ : IntKind.min .i64 ≤ x1) (_ : x1 ≤ IntKind.max .i64) (_ : IntKind.min .i64 ≤ x2) (_ : x2 ≤ IntKind.max .i64) (h3 : IntKind.min .u64 ≤ x3) (k3 : x3 ≤ IntKind.max .u64) (h8 : IntKind.min .i64 ≤ x4) (k8 : x4 ≤ IntKind.max .i64) (h9 : IntKind.min .i64 ≤ x5) (k9 : x5 ≤ IntKind.max .i64) :
    (T_RlogSpoilt x0 x1 x2 x3 x4 x5).sat fun r => r = [.b true] := by
  have h3 : 0 ≤ x3 := h3
  have k3 : x3 ≤ 18446744073709551615 := k3
  have h8 : -9223372036854775808 ≤ x4 := h8
  have k8 : x4 ≤ 9223372036854775807 := k8
  have h9 : -9223372036854775808 ≤ x5 := h9
  have k9 : x5 ≤ 9223372036854775807 := k9
  unfold T_RlogSpoilt
  refine brT (lsk _ _ _ _) ?_
  cases ha : rb x0 x1 x2 with
  | false => exact brT (by rw [s8, ha]; rfl) ⟨_, rfl, rfl⟩
  | true =>
    refine brF (by rw [s8, ha]; rfl) ?_
    have hk := kind_lo h8 k8 (n := 64) (by decide)
    have hv := kind_lo h9 k9 (n := 255) (by decide)
    have hw : within (r_kind_0 x4 64) 64 = true := by
      simp only [within, Bool.and_eq_true, decide_eq_true_eq]; omega
    have hJ : Int.toNat (r_kind_0 x4 64) < 64 := by omega
    have ew : IntKind.wrap IntKind.i64 (1 + r_kind_0 x5 255) = 1 + r_kind_0 x5 255 := wrap_i64 (by omega) (by omega)
    have hvr : 0 ≤ IntKind.wrap IntKind.u8 (IntKind.wrap IntKind.i64 (1 + r_kind_0 x5 255)) ∧ IntKind.wrap IntKind.u8 (IntKind.wrap IntKind.i64 (1 + r_kind_0 x5 255)) ≤ 255 := by rw [wrap_u8_mod]; omega
    have hv0 : IntKind.wrap IntKind.u8 (IntKind.wrap IntKind.i64 (1 + r_kind_0 x5 255)) ≠ 0 := by rw [ew, wrap_u8_mod]; omega
    have a0 : 0 ≤ r_lLine_0 x0 x1 x2 x3 := by rw [s0, ha, cond_true]; decide
    have b0 : r_lLine_0 x0 x1 x2 x3 ≤ 18446744073709551615 := by rw [s0, ha, cond_true]; decide
    have a1 : 0 ≤ r_lLine_1 x0 x1 x2 x3 := by rw [s1, ha, cond_true]; exact wu _
    have b1 : r_lLine_1 x0 x1 x2 x3 ≤ 18446744073709551615 := by rw [s1, ha, cond_true]; rw [wrap_u64_mod]; omega
    have a2 : 0 ≤ r_lLine_2 x0 x1 x2 x3 := by rw [s2, ha, cond_true]; exact wu _
    have b2 : r_lLine_2 x0 x1 x2 x3 ≤ 18446744073709551615 := by rw [s2, ha, cond_true]; rw [wrap_u64_mod]; omega
    have a3 : 0 ≤ r_lLine_3 x0 x1 x2 x3 := by rw [s3, ha, cond_true]; exact wu _
    have b3 : r_lLine_3 x0 x1 x2 x3 ≤ 18446744073709551615 := by rw [s3, ha, cond_true]; rw [wrap_u64_mod]; omega
    have a4 : 0 ≤ r_lLine_4 x0 x1 x2 x3 := by rw [s4, ha, cond_true]; exact h3
    have b4 : r_lLine_4 x0 x1 x2 x3 ≤ 18446744073709551615 := by rw [s4, ha, cond_true]; exact k3
    have a5 : 0 ≤ r_lLine_5 x0 x1 x2 x3 := by rw [s5, ha, cond_true]; decide
    have b5 : r_lLine_5 x0 x1 x2 x3 ≤ 18446744073709551615 := by rw [s5, ha, cond_true]; decide
    have a6 : 0 ≤ r_lLine_6 x0 x1 x2 x3 := by rw [s6, ha, cond_true]; decide
    have b6 : r_lLine_6 x0 x1 x2 x3 ≤ 18446744073709551615 := by rw [s6, ha, cond_true]; decide
    have hs7 : r_lLine_7 x0 x1 x2 x3 = ((sealN (words7 (r_lLine_0 x0 x1 x2 x3) (r_lLine_1 x0 x1 x2 x3) (r_lLine_2 x0 x1 x2 x3) (r_lLine_3 x0 x1 x2 x3) (r_lLine_4 x0 x1 x2 x3) (r_lLine_5 x0 x1 x2 x3) (r_lLine_6 x0 x1 x2 x3)) : Nat) : Int) := by
      rw [s0, s1, s2, s3, s4, s5, s6, s7 _ _ _ _ h3, ha]; rfl
    refine brT (kind_ok (by decide)) (brT (kind_ok (by decide)) (brT hw (brT (kind_ok (by decide)) (brT hw (brT (lrk _ _ _ _ _ _ _ _) ⟨_, rfl, congrArg (fun b => [At.b (!b)]) (Bool.eq_false_iff.2 fun hr => ?_)⟩)))))
    exact Bool.false_ne_true ((good_turned (c := RlogSpoilt_c28 x0 x1 x2 x3 x4 x5) a0 a1 a2 a3 a4 a5 a6 b0 b1 b2 b3 b4 b5 b6 hs7 hJ hvr hv0 rfl).symm.trans (lread_good (wu _) hr))
end Go.Proofs.Ythpcjcdiaifoiaa.G
end
