/-
  The abstract machine, part 24: ways laid together; loops.
-/
import Derived.Test.YtepdekambalmhaaAn7
import Derived.Test.YtepdekambalmhaaAmG
namespace Go.AM
open Go.RowKit

/-- Is it inside of what is followed? -/
def Tr.fine {α : Type} : Tr α → Bool
  | .ok _ => true
  | .br _ c t e => bif c then t.fine else e.fine
  | .no => false

/-- Never outside, whatever the tests come to. -/
def Tr.whole {α : Type} : Tr α → Bool
  | .ok _ => true
  | .br _ _ t e => match t.whole with
    | true => e.whole
    | false => false
  | .no => false

theorem fine_of_whole {α : Type} : ∀ {T : Tr α}, T.whole = true → T.fine = true
  | .ok _, _ => rfl
  | .br g c t e, h => by
    simp only [Tr.whole] at h
    cases ht : t.whole with
    | false => simp [ht] at h
    | true => simp only [ht] at h; cases c <;> simp [Tr.fine, fine_of_whole ht, fine_of_whole h]
  | .no, h => by simp [Tr.whole] at h

/-- Where it parts, where a number is told apart, where a part is not told. -/
def syOf3 (l sp sel : List Nat) : Nat → Option Nat := fun d => match sel.contains d with
  | true => some (200000 + d)
  | false => match sp.contains d with
    | true => some (100000 + d)
    | false => match l.contains d with
      | true => some d
      | false => none

/-- .. and where regions' ways are laid together. -/
def syJ (jn : List Nat) (sy : Nat → Option Nat) : Nat → Option Nat := fun d => match jn.contains d with
  | true => some d
  | false => sy d

inductive AK where
  | i | b | n | r
  deriving DecidableEq

def okAt : At → AK → Bool
  | .i _, .i => true
  | .b _, .b => true
  | .n _, .n => true
  | .r _ _, .r => true
  | _, _ => false

def okAts : List At → List AK → Bool
  | [], [] => true
  | a :: as, k :: ks => match okAt a k with
    | true => okAts as ks
    | false => false
  | _, _ => false

def Tr.aI (i : Nat) : Tr (List At) → Int
  | .ok l => AM.aI l i
  | .br _ c t e => bif c then t.aI i else e.aI i
  | .no => 0
def Tr.aB (i : Nat) : Tr (List At) → Bool
  | .ok l => AM.aB l i
  | .br _ c t e => bif c then t.aB i else e.aB i
  | .no => false
def Tr.aN (i : Nat) : Tr (List At) → Nat
  | .ok l => AM.aN l i
  | .br _ c t e => bif c then t.aN i else e.aN i
  | .no => 0
def Tr.aRn (i : Nat) : Tr (List At) → Nat
  | .ok l => AM.aRn l i
  | .br _ c t e => bif c then t.aRn i else e.aRn i
  | .no => 0
def Tr.aRg (i : Nat) (x y : Nat) : Tr (List At) → Int
  | .ok l => AM.aRg l i x y
  | .br _ c t e => bif c then t.aRg i x y else e.aRg i x y
  | .no => 0

def mAt (T : Tr (List At)) (i : Nat) : AK → At
  | .i => .i (T.aI i)
  | .b => .b (T.aB i)
  | .n => .n (T.aN i)
  | .r => .r (T.aRn i) fun x y => T.aRg i x y

def mAts (T : Tr (List At)) : Nat → List AK → List At
  | _, [] => []
  | i, k :: ks => mAt T i k :: mAts T (i + 1) ks

def mergedA (ks : List AK) (T : Tr (List At)) : Tr (List At) :=
  match T.whole with
  | true => .ok (mAts T 0 ks)
  | false => .br 0 T.fine (.ok (mAts T 0 ks)) .no

theorem mAts_congr {T T' : Tr (List At)} (hI : ∀ i, T.aI i = T'.aI i) (hB : ∀ i, T.aB i = T'.aB i) (hN : ∀ i, T.aN i = T'.aN i) (hR : ∀ i, T.aRn i = T'.aRn i) (hG : ∀ i x y, T.aRg i x y = T'.aRg i x y) : ∀ (i : Nat) (ks : List AK), mAts T i ks = mAts T' i ks
  | _, [] => rfl
  | i, k :: ks => by
    have e : mAt T i k = mAt T' i k := by
      cases k <;> simp only [mAt, hI, hB, hN, hR, hG]
    simp only [mAts, e, mAts_congr hI hB hN hR hG (i + 1) ks]

theorem mAts_ok {l : List At} : ∀ {as : List At} {ks : List AK} {i : Nat}, okAts as ks = true → (∀ j a, as[j]? = some a → l[i + j]? = some a) → mAts (.ok l) i ks = as
  | [], [], _, _, _ => rfl
  | a :: as, k :: ks, i, h, hl => by
    simp only [okAts] at h
    split at h
    · rename_i hk
      have ha := hl 0 a rfl
      simp only [Nat.add_zero] at ha
      have e1 : mAt (.ok l) i k = a := by
        cases k <;> cases a <;> simp_all [okAt, mAt, Tr.aI, Tr.aB, Tr.aN, Tr.aRn, Tr.aRg, AM.aI, AM.aB, AM.aN, AM.aRn, AM.aRg]
      simp only [mAts, e1]
      rw [mAts_ok h fun j b hj => by
        have := hl (j + 1) b (by simpa using hj)
        rw [← this]; congr 1; omega]
    · cases h
  | [], _ :: _, _, h, _ => by simp [okAts] at h
  | _ :: _, [], _, h, _ => by simp [okAts] at h

theorem mergedA_fine {ks : List AK} : ∀ {T : Tr (List At)}, T.all (fun l => okAts l ks) = true → T.fine = true → T.val = some (mAts T 0 ks)
  | .ok l, h, _ => by rw [mAts_ok h fun j a hj => by simpa using hj]; rfl
  | .br g c t e, h, hf => by
    simp only [Tr.all, Bool.and_eq_true] at h
    cases c with
    | true =>
      rw [mAts_congr (T := .br g true t e) (T' := t) (fun _ => rfl) (fun _ => rfl) (fun _ => rfl) (fun _ => rfl) (fun _ _ _ => rfl)]
      exact mergedA_fine h.1 hf
    | false =>
      rw [mAts_congr (T := .br g false t e) (T' := e) (fun _ => rfl) (fun _ => rfl) (fun _ => rfl) (fun _ => rfl) (fun _ _ _ => rfl)]
      exact mergedA_fine h.2 hf
  | .no, _, hf => by simp [Tr.fine] at hf

theorem mergedA_val {ks : List AK} {T : Tr (List At)} (h : T.all (fun l => okAts l ks) = true) {r : List At} (hr : (mergedA ks T).val = some r) : T.val = some r := by
  unfold mergedA at hr
  cases hw : T.whole with
  | true =>
    simp only [hw] at hr
    have := val_ok hr
    subst this
    exact mergedA_fine h (fine_of_whole hw)
  | false =>
    simp only [hw] at hr
    cases hf : T.fine with
    | false => simp [hf, Tr.val] at hr
    | true =>
      simp only [hf, Tr.val] at hr
      obtain rfl := Option.some.inj hr
      exact mergedA_fine h hf

section
variable {P : Program} {Γ : Specs} {sy : Nat → Option Nat} {Lp : Loops} {fuel : Nat}

/-- Of an equation and of its ways laid together. -/
theorem hT_merged {fn : Func} {ish osh : FSh} {T T' : List At → Tr (List At)} (ks : List AK) (e : ∀ l, (call P Γ sy Lp fuel fn (mkV ish l) (mkH ish l)).bind (leafO ish.hp.length osh) = T l) (hk : ∀ l, (T l).all (fun l => okAts l ks) = true) (hm : ∀ l, T' l = mergedA ks (T l)) :
    ∀ l r, (T' l).val = some r → ∃ r', ((call P Γ sy Lp fuel fn (mkV ish l) (mkH ish l)).bind (leafO ish.hp.length osh)).val = some r' ∧ AtsEq r' r :=
  hT_of e fun l r hr => ⟨r, mergedA_val (hk l) (by rw [← hm]; exact hr), AtsEq.refl r⟩

theorem hT_ways {fn : Func} {ish osh : FSh} {T : List At → Tr (List At)} (e : ∀ l, (call P Γ sy Lp fuel fn (mkV ish l) (mkH ish l)).bind (leafO ish.hp.length osh) = T l) :
    ∀ l r, (T l).val = some r → ∃ r', ((call P Γ sy Lp fuel fn (mkV ish l) (mkH ish l)).bind (leafO ish.hp.length osh)).val = some r' ∧ AtsEq r' r :=
  hT_of e fun _ r hr => ⟨r, hr, AtsEq.refl r⟩
end

theorem guard_val {α : Type} {g : Nat} {c : Bool} {t : Tr α} {r : α} (h : (Tr.br g c t .no).val = some r) : c = true ∧ t.val = some r := by
  cases c
  · simp [Tr.val] at h
  · exact ⟨rfl, h⟩

theorem br_t {α : Type} {g : Nat} {c : Bool} {t e : Tr α} (h : c = true) : (Tr.br g c t e).val = t.val := by subst h; rfl
theorem br_f {α : Type} {g : Nat} {c : Bool} {t e : Tr α} (h : c = false) : (Tr.br g c t e).val = e.val := by subst h; rfl
theorem ok_val {α : Type} {a : α} : (Tr.ok a).val = some a := rfl

theorem atsEq_nil : AtsEq [] [] := trivial
theorem atsEq_cons {a b : At} {l m : List At} (h : AtEq a b) (t : AtsEq l m) : AtsEq (a :: l) (b :: m) := ⟨h, t⟩
theorem atEq_r {n n' : Nat} {g g' : Nat → Nat → Int} (h : n = n') (hg : ∀ i, i < n → ∀ c, g i c = g' i c) : AtEq (.r n g) (.r n' g') := ⟨h, hg⟩
theorem atEq_i {x y : Int} (h : x = y) : AtEq (.i x) (.i y) := h ▸ AtEq.refl _
theorem atEq_n {x y : Nat} (h : x = y) : AtEq (.n x) (.n y) := h ▸ AtEq.refl _
theorem atEq_b {x y : Bool} (h : x = y) : AtEq (.b x) (.b y) := h ▸ AtEq.refl _

/-! ### loops -/

abbrev Exs := Ex → Option FSh

def leafL (k : Nat) (xs : Exs) (r : Ex × ASt) : Tr (Ex × List At) :=
  match xs r.1 with
  | some sh => match takeF k sh r.2.tm r.2.hp with
    | some (_, l) => .ok (r.1, l)
    | none => .no
  | none => .no

def loopFn (k : Nat) (lsh : FSh) (xs : Exs) (O : List At → Tr (Ex × List At)) : ASt → Tr (Ex × ASt) := fun s =>
  match takeF k lsh s.tm s.hp with
  | some (_, l) => (O l).bind fun r => match xs r.1 with
    | some sh => .ok (r.1, ⟨mkV sh r.2, mkH sh r.2⟩)
    | none => .no
  | none => .no

/-- One round: on with less, or out. -/
def RoundA (B O : List At → Tr (Ex × List At)) (μ : List At → Nat) (l : List At) (r : Ex × List At) : Prop :=
  (∃ l1 l2, (B l).val = some (.normal, l1) ∧ AtsEq l1 l2 ∧ μ l2 < μ l ∧ (O l2).val = some r) ∨
  (∃ e l1, e ≠ .normal ∧ (B l).val = some (e, l1) ∧ r.1 = e ∧ AtsEq l1 r.2)

section
variable {P : Program} {Γ : Specs} {sy : Nat → Option Nat} {Lp : Loops} {fuel : Nat}

/-- A state, laid into a shape. -/
theorem inv_take {k : Nat} (B : Base k) {φ : Phi} {s : ASt} {a : Act} {w : World} (hI : Inv φ s a w) (hE : Ext B.φ B.H B.w φ s.hp w) {sh : FSh} {σ : List Src} {l l' : List At} (ht : takeF k sh s.tm s.hp = some (σ, l)) (he : AtsEq l l') :
    ∃ φ', Inv φ' ⟨mkV sh l', mkH sh l'⟩ a w ∧ Ext B.φ B.H B.w φ' (mkH sh l') w := by
  obtain ⟨φ', k1, k2, k3, _⟩ := ext_take (H0 := B.H) (φ0 := B.φ) (by rw [B.lH]; exact ht) (by rw [B.lφ, B.lH]) hE hI.rep hI.tm
  exact ⟨φ', ⟨rep_eq k1 (mkH_eq he sh), by rw [← mkV_eq he]; exact k2, hI.df⟩, ext_eq k3 (mkH_eq he sh)⟩

theorem loop_loc (hΓ : SpecOK P Γ) (hm : P.follows .mixedOrders = true) {k : Nat} {c : Code} (hL : LoopsOK P k Lp c) {lsh : FSh} {xs : Exs} (hx : xs .normal = some lsh) {Bd O : List At → Tr (Ex × List At)} {μ : List At → Nat}
    (eB : ∀ l, (exec P Γ sy Lp fuel c ⟨mkV lsh l, mkH lsh l⟩).bind (leafL k xs) = Bd l) (h : ∀ l r, (O l).val = some r → RoundA Bd O μ l r) : LoopF P k c (loopFn k lsh xs O) := by
  intro s r hr B φ a w Q hI hE hQ
  unfold loopFn at hr
  split at hr
  · rename_i σ l ht
    rw [Tr.val_bind] at hr
    obtain ⟨⟨e, l'⟩, hO, hr⟩ := Option.bind_eq_some_iff.1 hr
    split at hr
    · rename_i sh hsh
      have := val_ok hr
      subst this
      obtain ⟨φ1, i1, i2⟩ := inv_take B hI hE ht (AtsEq.refl l)
      -- the rounds
      have key : ∀ (m : Nat) (l1 : List At) (φ' : Phi) (a' : Act) (w' : World), μ l1 < m → (O l1).val = some (e, l') → Inv φ' ⟨mkV lsh l1, mkH lsh l1⟩ a' w' → Ext B.φ B.H B.w φ' (mkH lsh l1) w' →
          ∀ (b : Frame) (kk : List Item) (cs : List Frame), ∃ e2 a2 w2, Q e2 a2 w2 ∧ Arrives P (lone (b.at a' (.code c :: .inLoop c :: kk)) cs w') b kk cs e2 a2 w2 := by
        intro m
        induction m with
        | zero => intro l1 φ' a' w' hm; omega
        | succ m ih =>
          intro l1 φ' a' w' hm1 hO1 hI' hE' b kk cs
          have body : ∀ {r1 : Ex × List At}, (Bd l1).val = some r1 → ∃ r2 : Ex × ASt, (exec P Γ sy Lp fuel c ⟨mkV lsh l1, mkH lsh l1⟩).val = some r2 ∧ r2.1 = r1.1 ∧ ∃ sh1 σ1, xs r1.1 = some sh1 ∧ takeF k sh1 r2.2.tm r2.2.hp = some (σ1, r1.2) := by
            intro r1 hr1
            rw [← eB l1, Tr.val_bind] at hr1
            obtain ⟨r2, g1, g2⟩ := Option.bind_eq_some_iff.1 hr1
            unfold leafL at g2
            split at g2
            · rename_i sh1 hsh1
              split at g2
              · rename_i σ1 l2 ht1
                have := val_ok g2
                subst this
                exact ⟨r2, g1, rfl, sh1, σ1, hsh1, ht1⟩
              · simp [Tr.val] at g2
            · simp [Tr.val] at g2
          rcases h l1 (e, l') hO1 with ⟨l2, l3, g1, g2, g3, g4⟩ | ⟨e', l2, g1, g2, g3, g4⟩
          · obtain ⟨⟨re, rs⟩, q1, q2, sh1, σ1, q3, q4⟩ := body g1
            simp only at q2 q3 q4
            subst q2
            rw [hx] at q3
            cases q3
            have hg := exec_goes hΓ hm c hL _ _ q1
            have hw := hg B φ' a' w' (fun e2 a2 w2 => e2 = .normal ∧ ∃ φ2, Inv φ2 rs a2 w2 ∧ Ext B.φ B.H B.w φ2 rs.hp w2) hI' hE' (fun φ2 a2 w2 i1 i2 => ⟨rfl, φ2, i1, i2⟩)
            obtain ⟨e2, a2, w2, ⟨rfl, φ2, j1, j2⟩, harr⟩ := hw b (.inLoop c :: kk) cs
            obtain ⟨φ3, j3, j4⟩ := inv_take B j1 j2 q4 g2
            obtain ⟨e3, a3, w3, hq3, harr3⟩ := ih l3 φ3 a2 w2 (by omega) g4 j3 j4 b kk cs
            exact ⟨e3, a3, w3, hq3, .of_steps (Steps.trans harr (.one step_inLoop)) harr3⟩
          · obtain ⟨⟨re, rs⟩, q1, q2, sh1, σ1, q3, q4⟩ := body g2
            simp only at q2 q3 q4 g3
            subst q2
            subst g3
            rw [hsh] at q3
            cases q3
            have hg := exec_goes hΓ hm c hL _ _ q1
            have hw := hg B φ' a' w' (fun e2 a2 w2 => e2 = e.toExit ∧ Q e2 a2 w2) hI' hE' (fun φ2 a2 w2 i1 i2 => by
              obtain ⟨φ3, j3, j4⟩ := inv_take B i1 i2 q4 g4
              exact ⟨rfl, hQ φ3 a2 w2 j3 j4⟩)
            obtain ⟨e2, a2, w2, ⟨rfl, hq⟩, harr⟩ := hw b (.inLoop c :: kk) cs
            have hne : e.toExit ≠ .normal := by
              cases e with
              | normal => exact absurd rfl g1
              | exit id => simp [Ex.toExit]
              | ret => simp [Ex.toExit]
            refine ⟨_, a2, w2, hq, .pass (x := .inLoop c) ?_ (fun _ _ => .inl hne) harr⟩
            cases e <;> first
              | exact absurd rfl g1
              | rfl
      intro b kk cs
      obtain ⟨e2, a2, w2, hq, harr⟩ := key (μ l + 1) l φ1 a w (by omega) hO i1 i2 b kk cs
      exact ⟨e2, a2, w2, hq, .of_steps (.one step_loop) harr⟩
    · simp [Tr.val] at hr
  · simp [Tr.val] at hr
end
end Go.AM
