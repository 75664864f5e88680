/-
  The abstract machine, part 17: loops by a measure.
-/
import Derived.Test.YtgohhgkonbenbaaAmF
namespace Go.AM

/-- 's1' says less than 's'. -/
structure Weak (s s1 : ASt) : Prop where
  hp : s1.hp = s.hp
  tm : All2 (fun a b => ∀ φ v, relT φ a v → relT φ b v) s.tm s1.tm

theorem All2.comp {α β γ : Type} {R : α → β → Prop} {S : α → γ → Prop} {T : β → γ → Prop} (h : ∀ a b c, R a b → T b c → S a c) : ∀ {l : List α} {m : List β} {n : List γ}, All2 R l m → All2 T m n → All2 S l n
  | [], [], [], _, _ => trivial
  | _ :: _, _ :: _, _ :: _, h1, h2 => ⟨h _ _ _ h1.1 h2.1, All2.comp h h1.2 h2.2⟩
  | [], [], _ :: _, _, h => h.elim
  | [], _ :: _, _, h, _ => h.elim
  | _ :: _, [], _, h, _ => h.elim
  | _ :: _, _ :: _, [], _, h => h.elim

theorem All2.flip {α β : Type} {R : α → β → Prop} : ∀ {l : List α} {m : List β}, All2 R l m → All2 (fun b a => R a b) m l
  | [], [], _ => trivial
  | _ :: _, _ :: _, h => ⟨h.1, h.2.flip⟩
  | [], _ :: _, h => h.elim
  | _ :: _, [], h => h.elim

theorem Inv.weak {φ : Phi} {s s1 : ASt} {a : Act} {w : World} (hw : Weak s s1) (h : Inv φ s a w) : Inv φ s1 a w :=
  ⟨hw.hp ▸ h.rep, All2.comp (fun _ _ _ h1 h2 => h1 φ _ h2) hw.tm.flip h.tm, h.df⟩

theorem Weak.refl (s : ASt) : Weak s s := ⟨rfl, All2.of_get rfl fun i a b ha hb φ v h => by rw [ha] at hb; cases hb; exact h⟩
theorem Weak.trans {s s1 s2 : ASt} (h1 : Weak s s1) (h2 : Weak s1 s2) : Weak s s2 := ⟨h2.hp.trans h1.hp, All2.comp (fun _ _ _ g1 g2 φ v h => g2 φ v (g1 φ v h)) h1.tm h2.tm⟩

def weakB (a b : TV) : Prop := b = .any ∨ a = b

theorem weakB_rel {a b : TV} (h : weakB a b) (φ : Phi) (v : Value) (ha : relT φ a v) : relT φ b v := by
  rcases h with rfl | rfl
  · trivial
  · exact ha

theorem Weak.mk' {tm tm1 : List TV} {H : AH} (h : All2 weakB tm tm1) : Weak ⟨tm, H⟩ ⟨tm1, H⟩ := ⟨rfl, h.mono fun _ _ => weakB_rel⟩

theorem weakB.refl (a : TV) : weakB a a := .inr rfl
theorem weakB.any (a : TV) : weakB a .any := .inl rfl

section
variable {P : Program} {c : Code}

theorem Goes.weak_in {s s1 : ASt} {r : Ex × ASt} (hw : Weak s s1) (h : Goes P c s1 r) : Goes P c s r := by
  intro φ a w Q hI hQ
  refine h φ a w Q (hI.weak hw) fun φ' a' w' i1 i2 => hQ φ' a' w' i1 ?_
  rw [← hw.hp]
  exact i2

theorem Goes.weak_out {s s1 s2 : ASt} {e : Ex} (hw : Weak s1 s2) (h : Goes P c s (e, s1)) : Goes P c s (e, s2) := by
  intro φ a w Q hI hQ
  refine h φ a w Q hI fun φ' a' w' i1 i2 => hQ φ' a' w' (i1.weak hw) ?_
  simp only [hw.hp]
  exact i2

/-- A loop, by a measure: what it comes to from 'x' on is 'out x'. -/
theorem loop_wf {X : Type} {St : X → ASt} {I : X → Prop} {μ : X → Nat} {out : X → Ex × ASt}
    (h : ∀ x, I x → (∃ x1, I x1 ∧ μ x1 < μ x ∧ out x1 = out x ∧ Goes P c (St x) (.normal, St x1)) ∨ (out x).1 ≠ .normal ∧ Goes P c (St x) (out x)) :
    ∀ x, I x → Goes P (.loop c) (St x) (out x) := by
  intro x hx φ a w Q hI hQ
  have key : ∀ (m : Nat) (x1 : X) (φ' : Phi) (a' : Act) (w' : World), μ x1 < m → I x1 → out x1 = out x → Inv φ' (St x1) a' w' → Ext φ (St x).hp w φ' (St x1).hp w' →
      ∀ (b : Frame) (k : List Item) (cs : List Frame), ∃ e a2 w2, Q e a2 w2 ∧ Arrives P (lone (b.at a' (.code c :: .inLoop c :: k)) cs w') b k cs e a2 w2 := by
    intro m
    induction m with
    | zero => intro x1 φ' a' w' hm; omega
    | succ m ih =>
      intro x1 φ' a' w' hm hi ho hI' hE b k cs
      rcases h x1 hi with ⟨x2, g1, g2, g3, g4⟩ | ⟨g1, g2⟩
      · have hw := g4 φ' a' w' (fun e a2 w2 => e = .normal ∧ ∃ φ2, Inv φ2 (St x2) a2 w2 ∧ Ext φ (St x).hp w φ2 (St x2).hp w2) hI' (fun φ2 a2 w2 i1 i2 => ⟨rfl, φ2, i1, hE.trans i2⟩)
        obtain ⟨e, a2, w2, ⟨rfl, φ2, i1, i2⟩, harr⟩ := hw b (.inLoop c :: k) cs
        obtain ⟨e3, a3, w3, hq3, harr3⟩ := ih x2 φ2 a2 w2 (by omega) g1 (g3.trans ho) i1 i2 b k cs
        exact ⟨e3, a3, w3, hq3, .of_steps (Steps.trans harr (.one step_inLoop)) harr3⟩
      · rw [ho] at g1 g2
        have hw := g2 φ' a' w' (fun e a2 w2 => e = (out x).1.toExit ∧ Q e a2 w2) hI' (fun φ2 a2 w2 i1 i2 => ⟨rfl, hQ φ2 a2 w2 i1 (hE.trans i2)⟩)
        obtain ⟨e, a2, w2, ⟨rfl, hq⟩, harr⟩ := hw b (.inLoop c :: k) cs
        have hne : (out x).1.toExit ≠ .normal := by
          cases hx : (out x).1 with
          | normal => exact absurd hx g1
          | exit id => simp [Ex.toExit]
          | ret => simp [Ex.toExit]
        refine ⟨_, a2, w2, hq, .pass (x := .inLoop c) ?_ (fun _ _ => .inl hne) harr⟩
        cases hx : (out x).1 <;> first
          | exact absurd hx g1
          | rfl
  intro b k cs
  obtain ⟨e, a', w', hq, harr⟩ := key (μ x + 1) x φ a w (by omega) hx rfl hI (Ext.refl _ _ _) b k cs
  exact ⟨e, a', w', hq, .of_steps (.one step_loop) harr⟩

theorem goes_of_val {P : Program} {Γ : Specs} {sy : Nat → Option Nat} {Lp : Loops} {fuel : Nat} (hΓ : SpecOK P Γ) (hm : P.follows .mixedOrders = true) {c : Code} (hL : LoopsOK P Lp c) {s : ASt} {t : Tr (Ex × ASt)} (ht : exec P Γ sy Lp fuel c s = t) {r : Ex × ASt} (h : t.val = some r) : Goes P c s r :=
  exec_goes hΓ hm c hL s r (by rw [ht]; exact h)
end

/-- A list of 'n' slots, told apart. -/
def slots (a : Nat → TV) : Nat → Nat → List TV
  | _, 0 => []
  | i, n + 1 => a i :: slots a (i + 1) n

theorem slots_of {a : Nat → TV} : ∀ {l : List TV} {i : Nat}, (∀ j v, l[j]? = some v → a (i + j) = v) → slots a i l.length = l
  | [], _, _ => rfl
  | v :: l, i, h => by
    have e1 : a i = v := h 0 v rfl
    have e2 : slots a (i + 1) l.length = l := slots_of fun j u hj => by
      rw [show i + 1 + j = i + (j + 1) by omega]
      exact h (j + 1) u (by simpa using hj)
    simp only [List.length_cons, slots, e1, e2]

theorem slots_eq {l : List TV} {n : Nat} (h : l.length = n) : l = slots (fun i => l.getD i .any) 0 n := by
  subst h
  exact (slots_of fun j v hj => by simp [List.getD, hj]).symm

def Loops.set (Lp : Loops) (k : Nat) (F : ASt → Tr (Ex × ASt)) : Loops := fun g => match Nat.beq g k with
  | true => some F
  | false => Lp g

/-- Each loop of the code has what it comes to, or is unrolled. -/
theorem loopsOK_of {P : Program} {Lp : Loops} {c : Code} (h : ∀ p ∈ loopsIn c, match Lp p.1 with | some F => LoopF P p.2 F | none => True) : LoopsOK P Lp c := by
  intro p hp F hF
  have := h p hp
  rw [hF] at this
  exact this

def loopsOf (fn : Func) : List (Nat × Code) := match fn.body with
  | some c => loopsIn c
  | none => []

def codeOf : List (Nat × Code) → Nat → Code
  | [], _ => .skip
  | (k, c) :: r, n => match Nat.beq k n with
    | true => c
    | false => codeOf r n

def loopAt (fn : Func) (k : Nat) : Code := codeOf (loopsOf fn) k

/-- No two loops of the code have this number. -/
def oneLoop : List (Nat × Code) → Nat → Bool
  | [], _ => true
  | (k, _) :: r, n => match Nat.beq k n with
    | true => r.all fun p => !Nat.beq p.1 n
    | false => oneLoop r n

theorem codeOf_mem : ∀ {l : List (Nat × Code)} {n : Nat} {p : Nat × Code}, oneLoop l n = true → p ∈ l → p.1 = n → p.2 = codeOf l n
  | [], _, _, _, h, _ => by simp at h
  | (k, c) :: r, n, p, h, hp, hn => by
    simp only [oneLoop] at h
    simp only [codeOf]
    cases hk : Nat.beq k n with
    | true =>
      simp only [hk] at h ⊢
      rcases List.mem_cons.1 hp with rfl | hp
      · rfl
      · have := List.all_eq_true.1 h p hp
        simp [hn] at this
    | false =>
      simp only [hk] at h ⊢
      rcases List.mem_cons.1 hp with rfl | hp
      · simp only at hn
        subst hn
        simp at hk
      · exact codeOf_mem h hp hn

theorem loopsFn_set {P : Program} {Lp : Loops} {fn : Func} {k : Nat} {F : ASt → Tr (Ex × ASt)} (hL : LoopsFn P Lp fn) (h1 : oneLoop (loopsOf fn) k = true) (h2 : LoopF P (loopAt fn k) F) : LoopsFn P (Lp.set k F) fn := by
  intro c hc p hp F' hF'
  unfold Loops.set at hF'
  cases hk : Nat.beq p.1 k with
  | true =>
    simp only [hk] at hF'
    obtain rfl := Option.some.inj hF'
    have e : loopsOf fn = loopsIn c := by simp [loopsOf, hc]
    have := codeOf_mem h1 (e ▸ hp) (Nat.eq_of_beq_eq_true hk)
    rw [this]
    exact h2
  | false =>
    simp only [hk] at hF'
    exact hL c hc p hp F' hF'

theorem loopsIn_sub : ∀ {c : Code} {p q : Nat × Code}, p ∈ loopsIn c → q ∈ loopsIn p.2 → q ∈ loopsIn c
  | .seq a b, p, q, hp, hq => by
    simp only [loopsIn, List.mem_append] at hp ⊢
    exact hp.imp (fun h => loopsIn_sub h hq) (fun h => loopsIn_sub h hq)
  | .cond _ a b, p, q, hp, hq => by
    simp only [loopsIn, List.mem_append] at hp ⊢
    exact hp.imp (fun h => loopsIn_sub h hq) (fun h => loopsIn_sub h hq)
  | .block _ c, p, q, hp, hq => by simp only [loopsIn] at hp ⊢; exact loopsIn_sub hp hq
  | .scope c, p, q, hp, hq => by simp only [loopsIn] at hp ⊢; exact loopsIn_sub hp hq
  | .loop c, p, q, hp, hq => by
    simp only [loopsIn, List.mem_append] at hp ⊢
    rcases hp with hp | hp
    · split at hp
      · simp only [List.mem_singleton] at hp
        subst hp
        exact .inr hq
      · simp at hp
    · exact .inr (loopsIn_sub hp hq)
  | .skip, _, _, hp, _ => by simp [loopsIn] at hp
  | .label _, _, _, hp, _ => by simp [loopsIn] at hp
  | .region .., _, _, hp, _ => by simp [loopsIn] at hp
  | .exit _, _, _, hp, _ => by simp [loopsIn] at hp
  | .ret, _, _, hp, _ => by simp [loopsIn] at hp
  | .rangeFunc .., _, _, hp, _ => by simp [loopsIn] at hp
  | .goto _, _, _, hp, _ => by simp [loopsIn] at hp
  | .refuse _, _, _, hp, _ => by simp [loopsIn] at hp

theorem codeOf_in : ∀ {l : List (Nat × Code)} {n : Nat}, codeOf l n = .skip ∨ (n, codeOf l n) ∈ l
  | [], _ => .inl rfl
  | (k, c) :: r, n => by
    simp only [codeOf]
    cases hk : Nat.beq k n with
    | true => have := Nat.eq_of_beq_eq_true hk; subst this; exact .inr (by simp)
    | false => exact (codeOf_in (l := r) (n := n)).imp id (fun h => by simp [h])

/-- The loops within a function's loop. -/
theorem loopsOK_at {P : Program} {Lp : Loops} {fn : Func} (hL : LoopsFn P Lp fn) (k : Nat) : LoopsOK P Lp (loopAt fn k) := by
  intro p hp F hF
  unfold loopAt at hp
  rcases codeOf_in (l := loopsOf fn) (n := k) with h | h
  · rw [h] at hp; simp [loopsIn] at hp
  · unfold loopsOf at h hp
    cases hb : fn.body with
    | none => simp [hb] at h
    | some c =>
      simp only [hb] at h hp
      exact hL c hb p (loopsIn_sub h hp) F hF

theorem weakB.eq {a b : TV} (h : a = b) : weakB a b := h ▸ weakB.refl a

def getN {α : Type} (k : IntKind) (t : TV) (f : Int → Tr α) : Tr α := match t with
  | .v (.s (.n k' x)) => if k' = k then f x else .no
  | _ => .no

def getB {α : Type} (t : TV) (f : Bool → Tr α) : Tr α := match t with
  | .v (.s (.b x)) => f x
  | _ => .no

theorem getN_val {α : Type} {k : IntKind} {t : TV} {f : Int → Tr α} {r : α} (h : (getN k t f).val = some r) : ∃ x, t = .v (.s (.n k x)) ∧ (f x).val = some r := by
  unfold getN at h
  split at h
  · rename_i k' x
    split at h
    · rename_i e; subst e; exact ⟨x, rfl, h⟩
    · simp [Tr.val] at h
  · simp [Tr.val] at h

theorem getB_val {α : Type} {t : TV} {f : Bool → Tr α} {r : α} (h : (getB t f).val = some r) : ∃ x, t = .v (.s (.b x)) ∧ (f x).val = some r := by
  unfold getB at h
  split at h
  · exact ⟨_, rfl, h⟩
  · simp [Tr.val] at h

def lenIs {α : Type} (n : Nat) (l : List TV) (t : Tr α) : Tr α := match Nat.beq l.length n with
  | true => t
  | false => .no

theorem lenIs_val {α : Type} {n : Nat} {l : List TV} {t : Tr α} {r : α} (h : (lenIs n l t).val = some r) : l.length = n ∧ t.val = some r := by
  unfold lenIs at h
  cases hb : Nat.beq l.length n with
  | true => simp only [hb] at h; exact ⟨Nat.eq_of_beq_eq_true hb, h⟩
  | false => simp [hb, Tr.val] at h

theorem guard_val {α : Type} {g : Nat} {c : Bool} {t : Tr α} {r : α} (h : (Tr.br g c t .no).val = some r) : c = true ∧ t.val = some r := by
  cases c
  · simp [Tr.val] at h
  · exact ⟨rfl, h⟩

/-- One round of a loop: on with less, or out. -/
def Round {X : Type} (S : X → ASt) (B O : X → Tr (Ex × ASt)) (pre : X → Bool) (μ : X → Nat) (x : X) : Prop :=
  (∃ y s1, pre y = true ∧ μ y < μ x ∧ (O y).val = (O x).val ∧ (B x).val = some (.normal, s1) ∧ Weak s1 (S y)) ∨
  ∃ e s1 s2, (B x).val = some (e, s1) ∧ e ≠ .normal ∧ (O x).val = some (e, s2) ∧ Weak s1 s2

def Onto (o : Option (Ex × ASt)) (e : Ex) (s : ASt) : Prop := match o with
  | some (e1, s1) => e1 = e ∧ Weak s1 s
  | none => False

theorem onto_of {o : Option (Ex × ASt)} {e : Ex} {s : ASt} (h : Onto o e s) : ∃ s1, o = some (e, s1) ∧ Weak s1 s := by
  unfold Onto at h
  split at h
  · obtain ⟨rfl, h⟩ := h; exact ⟨_, rfl, h⟩
  · exact h.elim

theorem onto_mk {e : Ex} {tm tm1 : List TV} {H : AH} (h : All2 weakB tm tm1) : Onto (some (e, ⟨tm, H⟩)) e ⟨tm1, H⟩ := ⟨rfl, Weak.mk' h⟩

theorem Round.on {X : Type} {S : X → ASt} {B O : X → Tr (Ex × ASt)} {pre : X → Bool} {μ : X → Nat} {x : X} (y : X) (hp : pre y = true) (hμ : μ y < μ x) (hO : (O y).val = (O x).val) (hB : Onto (B x).val .normal (S y)) : Round S B O pre μ x := by
  obtain ⟨s1, h1, h2⟩ := onto_of hB
  exact .inl ⟨y, s1, hp, hμ, hO, h1, h2⟩

theorem Round.off {X : Type} {S : X → ASt} {B O : X → Tr (Ex × ASt)} {pre : X → Bool} {μ : X → Nat} {x : X} (e : Ex) (s : ASt) (he : e ≠ .normal) (hO : (O x).val = some (e, s)) (hB : Onto (B x).val e s) : Round S B O pre μ x := by
  obtain ⟨s1, h1, h2⟩ := onto_of hB
  exact .inr ⟨e, s1, s, h1, he, hO, h2⟩

theorem loop_rounds {P : Program} {Γ : Specs} {sy : Nat → Option Nat} {Lp : Loops} {fuel : Nat} (hΓ : SpecOK P Γ) (hm : P.follows .mixedOrders = true) {c : Code} (hL : LoopsOK P Lp c) {X : Type} {S : X → ASt} {B O : X → Tr (Ex × ASt)} {pre : X → Bool} {μ : X → Nat}
    (eB : ∀ x, exec P Γ sy Lp fuel c (S x) = B x) (h : ∀ x, pre x = true → Round S B O pre μ x) : ∀ x, pre x = true → ∀ r, (O x).val = some r → Goes P (.loop c) (S x) r := by
  intro x hx r hr
  have key := loop_wf (P := P) (c := c) (St := S) (I := fun x => pre x = true ∧ (O x).val = some r) (μ := μ) (out := fun _ => r) (fun x hI => by
    obtain ⟨hp, ho⟩ := hI
    rcases h x hp with ⟨y, s1, h1, h2, h3, h4, h5⟩ | ⟨e, s1, s2, h1, h2, h3, h4⟩
    · exact .inl ⟨y, ⟨h1, h3.trans ho⟩, h2, rfl, Goes.weak_out h5 (goes_of_val hΓ hm hL (eB x) h4)⟩
    · rw [ho] at h3
      obtain rfl := Option.some.inj h3
      exact .inr ⟨h2, Goes.weak_out h4 (goes_of_val hΓ hm hL (eB x) h1)⟩)
  exact key x ⟨hx, hr⟩
end Go.AM
