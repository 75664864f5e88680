/-
  The abstract machine, part 16: which loop of a function is meant.
-/
import Derived.Test.YtepdekambalmhaaAmE
namespace Go.AM

def Loops.set (Lp : Loops) (k : Nat) (F : ASt → Tr (Ex × ASt)) : Loops := fun g => match Nat.beq g k with
  | true => some F
  | false => Lp g

/-- Each loop of the code has what it comes to, or is unrolled. -/
theorem loopsOK_of {P : Program} {kb : Nat} {Lp : Loops} {c : Code} (h : ∀ p ∈ loopsIn c, match Lp p.1 with | some F => LoopF P kb p.2 F | none => True) : LoopsOK P kb Lp c := by
  intro p hp F hF
  have := h p hp
  rw [hF] at this
  exact this

def loopsOf (fn : Func) : List (Nat × Code) := match fn.body with
  | some c => loopsIn c
  | none => []

def codeOf : List (Nat × Code) → Nat → Code
  | [], _ => .skip
  | (k, c) :: r, n => match Nat.beq k n with
    | true => c
    | false => codeOf r n

def loopAt (fn : Func) (k : Nat) : Code := codeOf (loopsOf fn) k

/-- No two loops of the code have this number. -/
def oneLoop : List (Nat × Code) → Nat → Bool
  | [], _ => true
  | (k, _) :: r, n => match Nat.beq k n with
    | true => r.all fun p => !Nat.beq p.1 n
    | false => oneLoop r n

theorem codeOf_mem : ∀ {l : List (Nat × Code)} {n : Nat} {p : Nat × Code}, oneLoop l n = true → p ∈ l → p.1 = n → p.2 = codeOf l n
  | [], _, _, _, h, _ => by simp at h
  | (k, c) :: r, n, p, h, hp, hn => by
    simp only [oneLoop] at h
    simp only [codeOf]
    cases hk : Nat.beq k n with
    | true =>
      simp only [hk] at h ⊢
      rcases List.mem_cons.1 hp with rfl | hp
      · rfl
      · have := List.all_eq_true.1 h p hp
        simp [hn] at this
    | false =>
      simp only [hk] at h ⊢
      rcases List.mem_cons.1 hp with rfl | hp
      · simp only at hn
        subst hn
        simp at hk
      · exact codeOf_mem h hp hn

theorem loopsFn_set {P : Program} {kb : Nat} {Lp : Loops} {fn : Func} {k : Nat} {F : ASt → Tr (Ex × ASt)} (hL : LoopsFn P kb Lp fn) (h1 : oneLoop (loopsOf fn) k = true) (h2 : LoopF P kb (loopAt fn k) F) : LoopsFn P kb (Lp.set k F) fn := by
  intro c hc p hp F' hF'
  unfold Loops.set at hF'
  cases hk : Nat.beq p.1 k with
  | true =>
    simp only [hk] at hF'
    obtain rfl := Option.some.inj hF'
    have e : loopsOf fn = loopsIn c := by simp [loopsOf, hc]
    have := codeOf_mem h1 (e ▸ hp) (Nat.eq_of_beq_eq_true hk)
    rw [this]
    exact h2
  | false =>
    simp only [hk] at hF'
    exact hL c hc p hp F' hF'

theorem loopsIn_sub : ∀ {c : Code} {p q : Nat × Code}, p ∈ loopsIn c → q ∈ loopsIn p.2 → q ∈ loopsIn c
  | .seq a b, p, q, hp, hq => by
    simp only [loopsIn, List.mem_append] at hp ⊢
    exact hp.imp (fun h => loopsIn_sub h hq) (fun h => loopsIn_sub h hq)
  | .cond _ a b, p, q, hp, hq => by
    simp only [loopsIn, List.mem_append] at hp ⊢
    exact hp.imp (fun h => loopsIn_sub h hq) (fun h => loopsIn_sub h hq)
  | .block _ c, p, q, hp, hq => by simp only [loopsIn] at hp ⊢; exact loopsIn_sub hp hq
  | .scope c, p, q, hp, hq => by simp only [loopsIn] at hp ⊢; exact loopsIn_sub hp hq
  | .loop c, p, q, hp, hq => by
    simp only [loopsIn, List.mem_append] at hp ⊢
    rcases hp with hp | hp
    · split at hp
      · simp only [List.mem_singleton] at hp
        subst hp
        exact .inr hq
      · simp at hp
    · exact .inr (loopsIn_sub hp hq)
  | .skip, _, _, hp, _ => by simp [loopsIn] at hp
  | .label _, _, _, hp, _ => by simp [loopsIn] at hp
  | .region .., _, _, hp, _ => by simp [loopsIn] at hp
  | .exit _, _, _, hp, _ => by simp [loopsIn] at hp
  | .ret, _, _, hp, _ => by simp [loopsIn] at hp
  | .rangeFunc .., _, _, hp, _ => by simp [loopsIn] at hp
  | .goto _, _, _, hp, _ => by simp [loopsIn] at hp
  | .refuse _, _, _, hp, _ => by simp [loopsIn] at hp

theorem codeOf_in : ∀ {l : List (Nat × Code)} {n : Nat}, codeOf l n = .skip ∨ (n, codeOf l n) ∈ l
  | [], _ => .inl rfl
  | (k, c) :: r, n => by
    simp only [codeOf]
    cases hk : Nat.beq k n with
    | true => have := Nat.eq_of_beq_eq_true hk; subst this; exact .inr (by simp)
    | false => exact (codeOf_in (l := r) (n := n)).imp id (fun h => by simp [h])

/-- The loops within a function's loop. -/
theorem loopsOK_at {P : Program} {kb : Nat} {Lp : Loops} {fn : Func} (hL : LoopsFn P kb Lp fn) (k : Nat) : LoopsOK P kb Lp (loopAt fn k) := by
  intro p hp F hF
  unfold loopAt at hp
  rcases codeOf_in (l := loopsOf fn) (n := k) with h | h
  · rw [h] at hp; simp [loopsIn] at hp
  · unfold loopsOf at h hp
    cases hb : fn.body with
    | none => simp [hb] at h
    | some c =>
      simp only [hb] at h hp
      exact hL c hb p (loopsIn_sub h hp) F hF

end Go.AM
