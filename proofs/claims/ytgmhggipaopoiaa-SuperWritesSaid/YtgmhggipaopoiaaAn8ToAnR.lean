/-
  The abstract machine, part 24: ways laid together; loops.
-/
import Derived.Test.YtgmhggipaopoiaaAn4ToAn7
import Derived.Test.YtgmhggipaopoiaaAmDToAn3
import Derived.Deep.Slices
section
namespace Go.AM
open Go.RowKit

def Tr.fine {α : Type} : Tr α → Bool
  | .ok _ => true
  | .br _ c t e => bif c then t.fine else e.fine
  | .no => false

def Tr.whole {α : Type} : Tr α → Bool
  | .ok _ => true
  | .br _ _ t e => match t.whole with
    | true => e.whole
    | false => false
  | .no => false

theorem fine_of_whole {α : Type} : ∀ {T : Tr α}, T.whole = true → T.fine = true
  | .ok _, _ => rfl
  | .br g c t e, h => by
    simp only [Tr.whole] at h
    cases ht : t.whole with
    | false => simp [ht] at h
    | true => simp only [ht] at h; cases c <;> simp [Tr.fine, fine_of_whole ht, fine_of_whole h]
  | .no, h => by simp [Tr.whole] at h

def syOf3 (l sp sel : List Nat) : Nat → Option Nat := fun d => match sel.contains d with
  | true => some (200000 + d)
  | false => match sp.contains d with
    | true => some (100000 + d)
    | false => match l.contains d with
      | true => some d
      | false => none

inductive AK where
  | i | b | n | r
  deriving DecidableEq

def okAt : At → AK → Bool
  | .i _, .i => true
  | .b _, .b => true
  | .n _, .n => true
  | .r _ _, .r => true
  | _, _ => false

def okAts : List At → List AK → Bool
  | [], [] => true
  | a :: as, k :: ks => match okAt a k with
    | true => okAts as ks
    | false => false
  | _, _ => false

def Tr.aI (i : Nat) : Tr (List At) → Int
  | .ok l => AM.aI l i
  | .br _ c t e => bif c then t.aI i else e.aI i
  | .no => 0
def Tr.aB (i : Nat) : Tr (List At) → Bool
  | .ok l => AM.aB l i
  | .br _ c t e => bif c then t.aB i else e.aB i
  | .no => false
def Tr.aN (i : Nat) : Tr (List At) → Nat
  | .ok l => AM.aN l i
  | .br _ c t e => bif c then t.aN i else e.aN i
  | .no => 0
def Tr.aRn (i : Nat) : Tr (List At) → Nat
  | .ok l => AM.aRn l i
  | .br _ c t e => bif c then t.aRn i else e.aRn i
  | .no => 0
def Tr.aRg (i : Nat) (x y : Nat) : Tr (List At) → Int
  | .ok l => AM.aRg l i x y
  | .br _ c t e => bif c then t.aRg i x y else e.aRg i x y
  | .no => 0

def mAt (T : Tr (List At)) (i : Nat) : AK → At
  | .i => .i (T.aI i)
  | .b => .b (T.aB i)
  | .n => .n (T.aN i)
  | .r => .r (T.aRn i) fun x y => T.aRg i x y

def mAts (T : Tr (List At)) : Nat → List AK → List At
  | _, [] => []
  | i, k :: ks => mAt T i k :: mAts T (i + 1) ks

def mergedA (ks : List AK) (T : Tr (List At)) : Tr (List At) :=
  match T.whole with
  | true => .ok (mAts T 0 ks)
  | false => .br 0 T.fine (.ok (mAts T 0 ks)) .no

theorem mAts_congr {T T' : Tr (List At)} (hI : ∀ i, T.aI i = T'.aI i) (hB : ∀ i, T.aB i = T'.aB i) (hN : ∀ i, T.aN i = T'.aN i) (hR : ∀ i, T.aRn i = T'.aRn i) (hG : ∀ i x y, T.aRg i x y = T'.aRg i x y) : ∀ (i : Nat) (ks : List AK), mAts T i ks = mAts T' i ks
  | _, [] => rfl
  | i, k :: ks => by
    have e : mAt T i k = mAt T' i k := by
      cases k <;> simp only [mAt, hI, hB, hN, hR, hG]
    simp only [mAts, e, mAts_congr hI hB hN hR hG (i + 1) ks]

theorem mAts_ok {l : List At} : ∀ {as : List At} {ks : List AK} {i : Nat}, okAts as ks = true → (∀ j a, as[j]? = some a → l[i + j]? = some a) → mAts (.ok l) i ks = as
  | [], [], _, _, _ => rfl
  | a :: as, k :: ks, i, h, hl => by
    simp only [okAts] at h
    split at h
    · rename_i hk
      have ha := hl 0 a rfl
      simp only [Nat.add_zero] at ha
      have e1 : mAt (.ok l) i k = a := by
        cases k <;> cases a <;> simp_all [okAt, mAt, Tr.aI, Tr.aB, Tr.aN, Tr.aRn, Tr.aRg, AM.aI, AM.aB, AM.aN, AM.aRn, AM.aRg]
      simp only [mAts, e1]
      rw [mAts_ok h fun j b hj => by
        have := hl (j + 1) b (by simpa using hj)
        rw [← this]; congr 1; omega]
    · cases h
  | [], _ :: _, _, h, _ => by simp [okAts] at h
  | _ :: _, [], _, h, _ => by simp [okAts] at h

theorem mergedA_fine {ks : List AK} : ∀ {T : Tr (List At)}, T.all (fun l => okAts l ks) = true → T.fine = true → T.val = some (mAts T 0 ks)
  | .ok l, h, _ => by rw [mAts_ok h fun j a hj => by simpa using hj]; rfl
  | .br g c t e, h, hf => by
    simp only [Tr.all, Bool.and_eq_true] at h
    cases c with
    | true =>
      rw [mAts_congr (T := .br g true t e) (T' := t) (fun _ => rfl) (fun _ => rfl) (fun _ => rfl) (fun _ => rfl) (fun _ _ _ => rfl)]
      exact mergedA_fine h.1 hf
    | false =>
      rw [mAts_congr (T := .br g false t e) (T' := e) (fun _ => rfl) (fun _ => rfl) (fun _ => rfl) (fun _ => rfl) (fun _ _ _ => rfl)]
      exact mergedA_fine h.2 hf
  | .no, _, hf => by simp [Tr.fine] at hf

theorem mergedA_val {ks : List AK} {T : Tr (List At)} (h : T.all (fun l => okAts l ks) = true) {r : List At} (hr : (mergedA ks T).val = some r) : T.val = some r := by
  unfold mergedA at hr
  cases hw : T.whole with
  | true =>
    simp only [hw] at hr
    have := val_ok hr
    subst this
    exact mergedA_fine h (fine_of_whole hw)
  | false =>
    simp only [hw] at hr
    cases hf : T.fine with
    | false => simp [hf, Tr.val] at hr
    | true =>
      simp only [hf, Tr.val] at hr
      obtain rfl := Option.some.inj hr
      exact mergedA_fine h hf

section
variable {P : Program} {Γ : Specs} {sy : Nat → Option Nat} {Lp : Loops} {fuel : Nat}

theorem hT_merged {fn : Func} {ish osh : FSh} {T T' : List At → Tr (List At)} (ks : List AK) (e : ∀ l, (call P Γ sy Lp fuel fn (mkV ish l) (mkH ish l)).bind (leafO ish.hp.length osh) = T l) (hk : ∀ l, (T l).all (fun l => okAts l ks) = true) (hm : ∀ l, T' l = mergedA ks (T l)) :
    ∀ l r, (T' l).val = some r → ∃ r', ((call P Γ sy Lp fuel fn (mkV ish l) (mkH ish l)).bind (leafO ish.hp.length osh)).val = some r' ∧ AtsEq r' r :=
  hT_of e fun l r hr => ⟨r, mergedA_val (hk l) (by rw [← hm]; exact hr), AtsEq.refl r⟩

theorem hT_waysS {fn : Func} {ish : FSh} {oshs : List FSh} {T : List At → Tr (Nat × List At)} (e : ∀ l, (call P Γ sy Lp fuel fn (mkV ish l) (mkH ish l)).bind (leafOs ish.hp.length 0 oshs) = T l) :
    ∀ l r, (T l).val = some r → ∃ r', ((call P Γ sy Lp fuel fn (mkV ish l) (mkH ish l)).bind (leafOs ish.hp.length 0 oshs)).val = some r' ∧ r'.1 = r.1 ∧ AtsEq r'.2 r.2 :=
  fun l r hr => ⟨r, by rw [e l]; exact hr, rfl, AtsEq.refl _⟩

theorem hT_ofS {fn : Func} {ish : FSh} {oshs : List FSh} {T T' : List At → Tr (Nat × List At)} (e : ∀ l, (call P Γ sy Lp fuel fn (mkV ish l) (mkH ish l)).bind (leafOs ish.hp.length 0 oshs) = T l) (h : ∀ l r, (T' l).val = some r → ∃ r', (T l).val = some r' ∧ r'.1 = r.1 ∧ AtsEq r'.2 r.2) :
    ∀ l r, (T' l).val = some r → ∃ r', ((call P Γ sy Lp fuel fn (mkV ish l) (mkH ish l)).bind (leafOs ish.hp.length 0 oshs)).val = some r' ∧ r'.1 = r.1 ∧ AtsEq r'.2 r.2 := fun l r hr => by
  obtain ⟨r', h1, h2⟩ := h l r hr
  exact ⟨r', by rw [e l]; exact h1, h2⟩

theorem hT_ways {fn : Func} {ish osh : FSh} {T : List At → Tr (List At)} (e : ∀ l, (call P Γ sy Lp fuel fn (mkV ish l) (mkH ish l)).bind (leafO ish.hp.length osh) = T l) :
    ∀ l r, (T l).val = some r → ∃ r', ((call P Γ sy Lp fuel fn (mkV ish l) (mkH ish l)).bind (leafO ish.hp.length osh)).val = some r' ∧ AtsEq r' r :=
  hT_of e fun _ r hr => ⟨r, hr, AtsEq.refl r⟩
end

theorem guard_val {α : Type} {g : Nat} {c : Bool} {t : Tr α} {r : α} (h : (Tr.br g c t .no).val = some r) : c = true ∧ t.val = some r := by
  cases c
  · simp [Tr.val] at h
  · exact ⟨rfl, h⟩

theorem br_t {α : Type} {g : Nat} {c : Bool} {t e : Tr α} (h : c = true) : (Tr.br g c t e).val = t.val := by subst h; rfl
theorem br_f {α : Type} {g : Nat} {c : Bool} {t e : Tr α} (h : c = false) : (Tr.br g c t e).val = e.val := by subst h; rfl
theorem atsEq_nil : AtsEq [] [] := trivial
theorem atsEq_cons {a b : At} {l m : List At} (h : AtEq a b) (t : AtsEq l m) : AtsEq (a :: l) (b :: m) := ⟨h, t⟩
theorem atEq_r {n n' : Nat} {g g' : Nat → Nat → Int} (h : n = n') (hg : ∀ i, i < n → ∀ c, g i c = g' i c) : AtEq (.r n g) (.r n' g') := ⟨h, hg⟩
theorem atEq_i {x y : Int} (h : x = y) : AtEq (.i x) (.i y) := h ▸ AtEq.refl _
/-! ### loops -/

abbrev Exs := Ex → Option FSh

def leafL (k : Nat) (xs : Exs) (r : Ex × ASt) : Tr (Ex × List At) :=
  match xs r.1 with
  | some sh => match takeF k sh r.2.tm r.2.hp with
    | some (_, l) => .ok (r.1, l)
    | none => (allow r.2.hp).bind fun H => match takeF k sh r.2.tm H with
      | some (_, l) => .ok (r.1, l)
      | none => .no
  | none => .no

theorem leafL_val {k : Nat} {xs : Exs} {r2 : Ex × ASt} {r1 : Ex × List At} (h : (leafL k xs r2).val = some r1) : r2.1 = r1.1 ∧ ∃ sh1 σ1 H2, xs r1.1 = some sh1 ∧ Words r2.2.hp H2 ∧ takeF k sh1 r2.2.tm H2 = some (σ1, r1.2) := by
  unfold leafL at h
  split at h
  · rename_i sh1 hsh1
    split at h
    · rename_i σ1 l2 ht1
      have := val_ok h
      subst this
      exact ⟨rfl, sh1, σ1, _, hsh1, All2.of_get rfl fun i a b h1 h2 => .inl (by rw [h1] at h2; exact Option.some.inj h2), ht1⟩
    · rw [Tr.val_bind] at h
      obtain ⟨H2, q1, q2⟩ := Option.bind_eq_some_iff.1 h
      split at q2
      · rename_i σ1 l2 ht1
        have := val_ok q2
        subst this
        exact ⟨rfl, sh1, σ1, H2, hsh1, allow_words q1, ht1⟩
      · simp [Tr.val] at q2
  · simp [Tr.val] at h

def loopFn (k : Nat) (lsh : FSh) (xs : Exs) (O : List At → Tr (Ex × List At)) : ASt → Tr (Ex × ASt) := fun s =>
  match takeF k lsh s.tm s.hp with
  | some (_, l) => (O l).bind fun r => match xs r.1 with
    | some sh => .ok (r.1, ⟨mkV sh r.2, mkH sh r.2⟩)
    | none => .no
  | none => .no

def RoundA (B O : List At → Tr (Ex × List At)) (μ : List At → Nat) (l : List At) (r : Ex × List At) : Prop :=
  (∃ l1 l2, (B l).val = some (.normal, l1) ∧ AtsEq l1 l2 ∧ μ l2 < μ l ∧ (O l2).val = some r) ∨
  (∃ e l1, e ≠ .normal ∧ (B l).val = some (e, l1) ∧ r.1 = e ∧ AtsEq l1 r.2)

section
variable {P : Program} {Γ : Specs} {sy : Nat → Option Nat} {Lp : Loops} {fuel : Nat}

theorem inv_take {k : Nat} (B : Base k) {φ : Phi} {s : ASt} {a : Act} {w : World} (hI : Inv φ s a w) (hE : Ext B.φ B.H B.w φ s.hp w) {sh : FSh} {σ : List Src} {l l' : List At} (ht : takeF k sh s.tm s.hp = some (σ, l)) (he : AtsEq l l') :
    ∃ φ', Inv φ' ⟨mkV sh l', mkH sh l'⟩ a w ∧ Ext B.φ B.H B.w φ' (mkH sh l') w := by
  obtain ⟨φ', k1, k2, k3, _⟩ := ext_take (H0 := B.H) (φ0 := B.φ) (by rw [B.lH]; exact ht) (by rw [B.lφ, B.lH]) hE hI.rep hI.tm
  exact ⟨φ', ⟨rep_eq k1 (mkH_eq he sh), by rw [← mkV_eq he]; exact k2, hI.df⟩, ext_eq k3 (mkH_eq he sh)⟩

theorem inv_takeW {k : Nat} (B : Base k) {φ : Phi} {s : ASt} {a : Act} {w : World} (hI : Inv φ s a w) (hE : Ext B.φ B.H B.w φ s.hp w) {sh : FSh} {H2 : AH} {σ : List Src} {l l' : List At} (hw : Words s.hp H2) (ht : takeF k sh s.tm H2 = some (σ, l)) (he : AtsEq l l') :
    ∃ φ', Inv φ' ⟨mkV sh l', mkH sh l'⟩ a w ∧ Ext B.φ B.H B.w φ' (mkH sh l') w :=
  inv_take (s := ⟨s.tm, H2⟩) B ⟨hw.rep hI.rep, hI.tm, hI.df⟩ (hw.ext hE) ht he

theorem loop_loc (hΓ : SpecOK P Γ) (hm : P.follows .mixedOrders = true) {k : Nat} {c : Code} (hL : LoopsOK P k Lp c) {lsh : FSh} {xs : Exs} (hx : xs .normal = some lsh) {Bd O : List At → Tr (Ex × List At)} {μ : List At → Nat}
    (eB : ∀ l, (exec P Γ sy Lp fuel c ⟨mkV lsh l, mkH lsh l⟩).bind (leafL k xs) = Bd l) (h : ∀ l r, (O l).val = some r → RoundA Bd O μ l r) : LoopF P k c (loopFn k lsh xs O) := by
  intro s r hr B φ a w Q hI hE hQ
  unfold loopFn at hr
  split at hr
  · rename_i σ l ht
    rw [Tr.val_bind] at hr
    obtain ⟨⟨e, l'⟩, hO, hr⟩ := Option.bind_eq_some_iff.1 hr
    split at hr
    · rename_i sh hsh
      have := val_ok hr
      subst this
      obtain ⟨φ1, i1, i2⟩ := inv_take B hI hE ht (AtsEq.refl l)
      -- the rounds
      have key : ∀ (m : Nat) (l1 : List At) (φ' : Phi) (a' : Act) (w' : World), μ l1 < m → (O l1).val = some (e, l') → Inv φ' ⟨mkV lsh l1, mkH lsh l1⟩ a' w' → Ext B.φ B.H B.w φ' (mkH lsh l1) w' →
          ∀ (b : Frame) (kk : List Item) (cs : List Frame), ∃ e2 a2 w2, Q e2 a2 w2 ∧ Arrives P (lone (b.at a' (.code c :: .inLoop c :: kk)) cs w') b kk cs e2 a2 w2 := by
        intro m
        induction m with
        | zero => intro l1 φ' a' w' hm; omega
        | succ m ih =>
          intro l1 φ' a' w' hm1 hO1 hI' hE' b kk cs
          have body : ∀ {r1 : Ex × List At}, (Bd l1).val = some r1 → ∃ r2 : Ex × ASt, (exec P Γ sy Lp fuel c ⟨mkV lsh l1, mkH lsh l1⟩).val = some r2 ∧ r2.1 = r1.1 ∧ ∃ sh1 σ1 H2, xs r1.1 = some sh1 ∧ Words r2.2.hp H2 ∧ takeF k sh1 r2.2.tm H2 = some (σ1, r1.2) := by
            intro r1 hr1
            rw [← eB l1, Tr.val_bind] at hr1
            obtain ⟨r2, g1, g2⟩ := Option.bind_eq_some_iff.1 hr1
            exact ⟨r2, g1, leafL_val g2⟩
          rcases h l1 (e, l') hO1 with ⟨l2, l3, g1, g2, g3, g4⟩ | ⟨e', l2, g1, g2, g3, g4⟩
          · obtain ⟨⟨re, rs⟩, q1, q2, sh1, σ1, H2, q3, qw, q4⟩ := body g1
            simp only at q2 q3 q4
            subst q2
            rw [hx] at q3
            cases q3
            have hg := exec_goes hΓ hm c hL _ _ q1
            have hw := hg B φ' a' w' (fun e2 a2 w2 => e2 = .normal ∧ ∃ φ2, Inv φ2 rs a2 w2 ∧ Ext B.φ B.H B.w φ2 rs.hp w2) hI' hE' (fun φ2 a2 w2 i1 i2 => ⟨rfl, φ2, i1, i2⟩)
            obtain ⟨e2, a2, w2, ⟨rfl, φ2, j1, j2⟩, harr⟩ := hw b (.inLoop c :: kk) cs
            obtain ⟨φ3, j3, j4⟩ := inv_takeW B j1 j2 qw q4 g2
            obtain ⟨e3, a3, w3, hq3, harr3⟩ := ih l3 φ3 a2 w2 (by omega) g4 j3 j4 b kk cs
            exact ⟨e3, a3, w3, hq3, .of_steps (Steps.trans harr (.one step_inLoop)) harr3⟩
          · obtain ⟨⟨re, rs⟩, q1, q2, sh1, σ1, H2, q3, qw, q4⟩ := body g2
            simp only at q2 q3 q4 g3
            subst q2
            subst g3
            rw [hsh] at q3
            cases q3
            have hg := exec_goes hΓ hm c hL _ _ q1
            have hw := hg B φ' a' w' (fun e2 a2 w2 => e2 = e.toExit ∧ Q e2 a2 w2) hI' hE' (fun φ2 a2 w2 i1 i2 => by
              obtain ⟨φ3, j3, j4⟩ := inv_takeW B i1 i2 qw q4 g4
              exact ⟨rfl, hQ φ3 a2 w2 j3 j4⟩)
            obtain ⟨e2, a2, w2, ⟨rfl, hq⟩, harr⟩ := hw b (.inLoop c :: kk) cs
            have hne : e.toExit ≠ .normal := by
              cases e with
              | normal => exact absurd rfl g1
              | exit id => simp [Ex.toExit]
              | ret => simp [Ex.toExit]
            refine ⟨_, a2, w2, hq, .pass (x := .inLoop c) ?_ (fun _ _ => .inl hne) harr⟩
            cases e <;> first
              | exact absurd rfl g1
              | rfl
      intro b kk cs
      obtain ⟨e2, a2, w2, hq, harr⟩ := key (μ l + 1) l φ1 a w (by omega) hO i1 i2 b kk cs
      exact ⟨e2, a2, w2, hq, .of_steps (.one step_loop) harr⟩
    · simp [Tr.val] at hr
  · simp [Tr.val] at hr
end
end Go.AM
end

/-
  The abstract machine, part 25: a law's arguments, slices among them.
-/
section
namespace Go.AM
open Go.RowKit Go.ChangeShapes Go.WideShapes

theorem valsK_get : ∀ {ks : List SK} {xs : List Int} {c : Nat} {k : SK}, xs.length = ks.length → ks[c]? = some k → (valsK ks xs)[c]? = some (valS k (xs.getD c 0))
  | k :: ks, x :: xs, 0, k', _, h => by simp at h; subst h; rfl
  | k :: ks, x :: xs, c + 1, k', hl, h => by simpa [valsK] using valsK_get (by simpa using hl) (by simpa using h)
  | [], _, c, _, _, h => by simp at h
  | _ :: _, [], _, _, hl, _ => by simp at hl

section
variable {P : Program} {H : Type} {enc : TypeId × Value → H}

theorem cell_at {W : World} {a : Addr} {i : Nat} {v : Value} (h : W.cell? (a.add i) = some v) (hs : a.spot = none) : ∃ cs t fr, W.heap[a.block]? = some (.cells cs t fr) ∧ cs[a.off + i]? = some v := by
  have e : a.add i = ⟨a.block, a.off + i, none⟩ := by
    unfold Addr.add
    obtain ⟨b, o, s⟩ := a
    simp only at hs
    subst hs
    by_cases h0 : i = 0
    · subst h0; simp
    · simp [h0]
  rw [e] at h
  unfold World.cell? at h
  split at h
  · rename_i c t fr hc
    exact ⟨c, t, fr, hc, by simpa using h⟩
  · cases h

end

/-! ### memory that is only read -/

theorem rep_ro_nil (heap : Array Obj) : Rep [] [] heap := ⟨rfl, fun id B h => by simp at h, fun id id' B B' L L' b h => by simp at h⟩

theorem rep_ro_snoc {φ : Phi} {H : AH} {heap : Array Obj} {L : Loc} {B : Blk} (h : Rep φ H heap) (hH : ∀ (id : Nat) C, H[id]? = some (some C) → C.mut = false) (hB : ∀ φ, RepB φ L heap B) (hm : B.mut = false) :
    Rep (φ ++ [L]) (H ++ [some B]) heap ∧ ∀ (id : Nat) C, (H ++ [some B])[id]? = some (some C) → C.mut = false := by
  have hmut : ∀ (id : Nat) C, (H ++ [some B])[id]? = some (some C) → C.mut = false := by
    intro id C hC
    rcases get_push hC with ⟨_, hC'⟩ | ⟨_, rfl⟩
    · exact hH id C hC'
    · exact hm
  refine ⟨⟨by simp [h.len], ?_, ?_⟩, hmut⟩
  · intro id C hC
    rcases get_push hC with ⟨hlt, hC'⟩ | ⟨rfl, rfl⟩
    · obtain ⟨L', h1, h2⟩ := h.blk id C hC'
      exact ⟨L', get_prefix h1, h2.mono _⟩
    · exact ⟨L, by rw [← h.len]; simp, hB _⟩
  · intro id id' C C' L1 L2 b h1 _ _ _ _ hmC
    rw [hmut id C h1] at hmC
    cases hmC

section
variable {P : Program} {Γ : Specs} {sy : Nat → Option Nat} {Lp : Loops} {fuel : Nat}

theorem calls_law (hΓ : SpecOK P Γ) (hm : P.follows .mixedOrders = true) {f : FuncId} {fn : Func} (hf : P.funcs[f]? = some fn) (ish : FSh) (hro : (ish.hp.all fun b => !b.mut) = true) (hL : LoopsFn P ish.hp.length Lp fn) {l : List At}
    {T : Tr (List At)} (e : (call P Γ sy Lp fuel fn (mkV ish l) (mkH ish l)).bind (leafO ish.hp.length ⟨[.v false [.k .b]], List.replicate ish.hp.length .no⟩) = T) (hT : T.sat fun r => r = [.b true])
    {φ0 : Phi} {W : World} {args : List Value} (hrep : Rep φ0 (mkH ish l) W.heap) (hargs : All2 (relT φ0) (mkV ish l) args) :
    Calls P f args.toArray W fun e W' => e = .returned (.bool true) ∧ Below W.heap.size W W' := by
  obtain ⟨r, hr, rfl⟩ := hT
  refine (calls_loc hΓ hm hf ish ⟨[.v false [.k .b]], List.replicate ish.hp.length .no⟩ hL (l := l) (r := [.b true]) ⟨_, by rw [e]; exact hr, AtsEq.refl _⟩ hrep hargs).mono ?_
  rintro e w' ⟨v, φ2, rfl, g1, g2, g3, g4⟩
  have hv : v = .bool true := g1.1
  subst hv
  refine ⟨rfl, g3.os, g3.tape, g3.output, g3.size, fun b hb => g3.frame b hb fun id B L h1 h2 h3 h4 => ?_⟩
  obtain ⟨bb, k1, k2⟩ := mkBs_mut h1
  have := List.all_eq_true.1 hro bb (List.mem_of_getElem? k1)
  rw [k2, h2] at this
  cases this
end
end Go.AM
end

/-
  The abstract machine: a law's arguments, slices of rows with members among them.
-/
section
namespace Go.AM
open Go.RowKit Go.ChangeShapes Go.WideShapes

def lastK (P : Program) (d : Nat) (t : TypeId) : Option (List SK × TypeId) :=
  match P.underlying t with
  | some (.struct fs) => match fs.toList.reverse with
    | f :: r => match flatFs (flatK P d) P.cellsOf 0 r.reverse with
      | some ks => if f.offset = ks.length ∧ P.cellsOf f.type = 1 ∧ P.cellsOf t = ks.length + 1 then some (ks, f.type) else none
      | none => none
    | [] => none
  | _ => none

section
variable {P : Program} {H : Type} {enc : TypeId × Value → H}

theorem trod_last {W : World} {base : Nat} {sp : Nat → Bool} {held : Bool} {d : Nat} {t ts : TypeId} {ks : List SK} {fuel : Nat} {cs : List Value} {x : DataW H × List MemPlace} (hk : lastK P d t = some (ks, ts)) (hx : DataW.trod enc P W base sp held fuel t cs = some x) :
    ∃ xs v fuel' x', cs = valsK ks xs ++ [v] ∧ wfsK ks xs ∧ DataW.trod enc P W base sp held fuel' ts [v] = some x' := by
  cases fuel with
  | zero => simp [DataW.trod] at hx
  | succ fuel =>
    unfold lastK at hk
    split at hk
    · rename_i fs hu
      split at hk
      · rename_i f r hr
        split at hk
        · rename_i ks' hks
          split at hk
          · rename_i hc
            simp only [Option.some.injEq, Prod.mk.injEq] at hk
            obtain ⟨rfl, rfl⟩ := hk
            obtain ⟨h1, h2, h3⟩ := hc
            unfold DataW.trod at hx
            rw [hu] at hx
            split at hx
            all_goals first
              | (simp at *; done)
              | skip
            rename_i fs' cs2 heq
            simp only [Option.some.injEq, TypeDesc.struct.injEq] at heq
            subst heq
            split at hx
            · rename_i hcl
              simp only [Option.map_eq_some_iff] at hx
              obtain ⟨rs, hrs, rfl⟩ := hx
              have hl : fs.toList = r.reverse ++ [f] := by rw [← List.reverse_reverse fs.toList, hr, List.reverse_cons]
              rw [hl, List.mapM_append] at hrs
              simp only [bind, Option.bind_eq_some_iff, pure, Option.some.injEq] at hrs
              obtain ⟨rs1, hr1, rs2, hr2, rfl⟩ := hrs
              obtain ⟨xs, e1, w1⟩ := trod_fields (fun t ks cs x h1 h2 => trod_flat d t ks fuel cs x h1 h2) _ 0 _ rs1 hks hr1
              simp only [List.mapM_cons, List.mapM_nil, bind, Option.bind_eq_some_iff, pure, Option.some.injEq] at hr2
              obtain ⟨x2, h4, _⟩ := hr2
              rw [h1, h2] at h4
              have hd := congrArg (fun n => n - ks'.length) (hcl.trans h3)
              rw [← List.length_drop, Nat.add_sub_cancel_left] at hd
              obtain ⟨v, hv⟩ := List.length_eq_one_iff.1 hd
              refine ⟨xs, v, fuel, x2, ?_, w1, ?_⟩
              · rw [← e1, List.drop_zero, ← hv, List.take_append_drop]
              · rw [hv] at h4; exact h4
            · cases hx
          · cases hk
        · cases hk
      · cases hk
    · cases hk

theorem slice_cells {W : World} {base : Nat} {a : Addr} {w m : Nat} {Q : Nat → List Value → Prop} (hw : 0 < w) (hm : 0 < m) (hx : ∀ i, i < m → ∃ cs', W.cells? base (a.add (i * w)) w = some cs' ∧ Q i cs') :
    a.spot = none ∧ ∃ cs ty fr, ∃ E : Nat → List Value, W.heap[a.block]? = some (.cells cs ty fr) ∧ a.off + m * w ≤ cs.size ∧ ∀ i, i < m → (E i).length = w ∧ Q i (E i) ∧ ∀ c v, (E i)[c]? = some v → cs[a.off + (i * w + c)]? = some v := by
  obtain ⟨E, hE⟩ := Go.Deep.choose_lt hx
  have hlen : ∀ i, i < m → (E i).length = w := fun i hi => by
    obtain ⟨_, g2, _⟩ := World.cells?_some (hE i hi).1
    exact g2
  have hcell : ∀ i c v, i < m → (E i)[c]? = some v → W.cell? ((a.add (i * w)).add c) = some v := by
    intro i c v hi hc
    obtain ⟨_, g3, g4⟩ := World.cells?_some (hE i hi).1
    rw [g4 c (by have := get_lt hc; omega)]
    exact hc
  have hspot : a.spot = none := by
    have h0 : (E 0)[0]? = some ((E 0)[0]'(by rw [hlen 0 hm]; exact hw)) := List.getElem?_eq_getElem _
    have := hcell 0 0 _ hm h0
    simp only [Nat.zero_mul, Addr.add, if_true] at this
    unfold World.cell? at this
    split at this
    · split at this
      · cases this
      · rename_i hs
        simpa using hs
    · cases this
  have hat : ∀ i c v, i < m → (E i)[c]? = some v → ∃ cs t fr, W.heap[a.block]? = some (.cells cs t fr) ∧ cs[a.off + (i * w + c)]? = some v := by
    intro i c v hi hc
    have := hcell i c v hi hc
    rw [Go.Deep.add_add] at this
    exact cell_at this hspot
  obtain ⟨cs, ty, fr, hcs, _⟩ := hat 0 0 _ hm (List.getElem?_eq_getElem (show 0 < (E 0).length by rw [hlen 0 hm]; exact hw))
  have hat' : ∀ i c v, i < m → (E i)[c]? = some v → cs[a.off + (i * w + c)]? = some v := by
    intro i c v hi hc
    obtain ⟨cs', ty', fr', h2, h3⟩ := hat i c v hi hc
    rw [hcs] at h2
    cases h2
    exact h3
  refine ⟨hspot, cs, ty, fr, E, hcs, ?_, fun i hi => ⟨hlen i hi, (hE i hi).2, fun c v hc => hat' i c v hi hc⟩⟩
  have hl := hlen (m - 1) (by omega)
  have := hat' (m - 1) (w - 1) _ (by omega) (List.getElem?_eq_getElem (by omega))
  have hlt := (Array.getElem?_eq_some_iff.1 this).1
  have : (m - 1) * w + w = m * w := by
    rw [Nat.sub_mul, Nat.one_mul]
    have : w ≤ m * w := Nat.le_mul_of_pos_left _ hm
    omega
  omega

theorem open_mem {W : World} {base : Nat} {held : Bool} {fuel n : Nat} {ts em : TypeId} {ms : List SK} {v : Value} {x : DataW H × List MemPlace} (hu : P.underlying ts = some (.slice em)) (hk : flatK P n em = some ms) (hlen : ms.length = P.cellsOf em) (h1 : ms ≠ [])
    (hx : DataW.trod enc P W base (fun _ => true) held fuel ts [v] = some x) :
    ∃ (len : Nat) (hi : Nat → Int), len ≤ maxLen ∧ (∀ (j c : Nat) k, j < len → ms[c]? = some k → wfS k (hi (j * ms.length + c))) ∧ ∀ φ, MemRep φ W.heap ms false len hi v := by
  have hm1 : 0 < ms.length := List.length_pos_iff.2 h1
  rcases Go.Deep.open_slice hu hx with ⟨h0, _⟩ | ⟨a, len, cap, m, nn, D, Pl, hc, hb, hl, hmx, hm, _, hxx⟩
  · simp only [List.cons.injEq, and_true] at h0
    subst h0
    exact ⟨0, fun _ => 0, Nat.zero_le _, fun j c k hj => by omega, fun φ => .inl ⟨rfl, _, rfl⟩⟩
  · simp only [List.cons.injEq, and_true] at hc
    subst hc
    simp only [if_true] at hm
    obtain rfl : m = cap := hm
    rcases Nat.eq_zero_or_pos m with h0 | hcap
    · subst h0
      obtain rfl : len = 0 := by omega
      exact ⟨0, fun _ => 0, Nat.zero_le _, fun j c k hj => by omega, fun φ => .inl ⟨rfl, _, rfl⟩⟩
    · rw [← hlen] at hxx
      obtain ⟨hs, cs, ty, fr, E, hcs, hsz, hE⟩ := slice_cells (Q := fun i cs' => DataW.trod enc P W base (fun _ => true) held nn em cs' = some (D i, Pl i)) hm1 hcap hxx
      obtain ⟨f, hf⟩ := Go.Deep.choose_lt (α := List Int) (n := m) (p := fun i xs => E i = valsK ms xs ∧ wfsK ms xs) (fun i hi => trod_flat n em ms _ _ _ hk (hE i hi).2.1)
      have hdm : ∀ j c, c < ms.length → (j * ms.length + c) / ms.length = j ∧ (j * ms.length + c) % ms.length = c := fun j c hc => by
        refine ⟨?_, ?_⟩
        · rw [Nat.mul_comm, Nat.mul_add_div hm1, Nat.div_eq_of_lt hc, Nat.add_zero]
        · rw [Nat.mul_comm, Nat.mul_add_mod, Nat.mod_eq_of_lt hc]
      refine ⟨len, fun k => (f (k / ms.length)).getD (k % ms.length) 0, by omega, fun j c k hj hc => ?_, fun φ => .inr ?_⟩
      · obtain ⟨d1, d2⟩ := hdm j c (get_lt hc)
        show wfS k ((f ((j * ms.length + c) / ms.length)).getD ((j * ms.length + c) % ms.length) 0)
        rw [d1, d2]
        exact wfsK_at (hf j (by omega)).2 hc
      · obtain ⟨bl, of, sp⟩ := a
        simp only at hs
        subst hs
        refine ⟨bl, of, m, cs, ty, fr, rfl, hcap, hl, hcs, hsz, (fun h => by cases h), fun j c sk hj hc => ?_⟩
        obtain ⟨d1, d2⟩ := hdm j c (get_lt hc)
        obtain ⟨e1, e2⟩ := hf j (by omega)
        refine ⟨valS sk ((f j).getD c 0), (hE j (by omega)).2.2 c _ (by rw [e1]; exact valsK_get e2.length hc), ?_⟩
        show relS φ (mkS sk ((f ((j * ms.length + c) / ms.length)).getD ((j * ms.length + c) % ms.length) 0)) _
        rw [d1, d2]
        exact relS_mkS φ sk _

end

end Go.AM
end

/-
  The abstract machine: a law's arguments, structs whose last field is a slice among them.
-/
section
namespace Go.AM
open Go.RowKit Go.ChangeShapes Go.WideShapes

section
variable {P : Program} {H : Type} {enc : TypeId × Value → H}

theorem rows_of_mem {heap : Array Obj} {ms : List SK} {len : Nat} {hi : Nat → Int} {v : Value} (h : ∀ φ, MemRep φ heap ms false len hi v) :
    ∃ L : Loc, L.n = len ∧ (∀ φ, RepB φ L heap (.rows ms len (fun j c => hi (j * ms.length + c)) false)) ∧ ∀ (φ : Phi) (id : Nat), φ[id]? = some L → relS φ (.slq id ms.length 0 L.n) v := by
  rcases h [] with ⟨h0, a, rfl⟩ | ⟨b, o, cap, cs, t, fr, rfl, h1, h2, h3, h4, h5, h6⟩
  · subst h0
    exact ⟨⟨0, 0, 0, 0, .nil⟩, rfl, fun φ => ⟨rfl, by simp, .inl rfl⟩, fun φ id _ => .inl ⟨rfl, a, rfl⟩⟩
  · refine ⟨⟨b, o, len * ms.length, len, .nil⟩, rfl, fun φ => ⟨rfl, Nat.le_refl _, ?_⟩, fun φ id hφ => .inr ⟨_, cap, hφ, h2, by simp, by simp⟩⟩
    rcases Nat.eq_zero_or_pos (len * ms.length) with hz | hp
    · exact .inl hz
    · refine .inr ⟨cs, t, fr, h3, ?_, (fun h => by cases h), fun i c sk hi hc => ?_⟩
      · have := Nat.mul_le_mul_right ms.length h2
        show o + len * ms.length ≤ cs.size
        omega
      · rcases h φ with ⟨h0, _⟩ | ⟨b', o', cap', cs', t', fr', e, _, _, k3, _, _, k6⟩
        · omega
        · cases e
          rw [h3] at k3
          cases k3
          exact k6 i c sk hi hc

theorem open_pow {W : World} {base base' : Nat} {held : Bool} {t ts em : TypeId} {ks1 ms : List SK} {v : Value} {dd : DataW H} {ps : List MemPlace} {n : Nat} (hk : lastK P n t = some (ks1, ts)) (hb : aggT P t = some true)
    (hum : P.underlying ts = some (.slice em)) (hkm : flatK P n em = some ms) (hlm : ms.length = P.cellsOf em) (h1 : ms ≠ [])
    (hok : Value.okWide P W .any base' t v) (ht : DataW.Trod enc P W base (fun _ => true) held t v dd ps) :
    ∃ (x : Nat → Int) (m : Nat) (g : Nat → Nat → Int) (L : Loc), (∀ (i : Nat) k, ks1[i]? = some k → wfS k (x i)) ∧ m ≤ maxLen ∧ (∀ (i c : Nat) k, i < m → ms[c]? = some k → wfS k (g i c)) ∧ L.n = m ∧ (∀ φ, RepB φ L W.heap (.rows ms m g false)) ∧
      ∀ (φ : Phi) (id : Nat), φ[id]? = some L → relT φ (.v (.agg (mkF x 0 ks1 ++ [.slq id ms.length 0 L.n]))) v := by
  have hag : ∃ cs, v = .agg cs := by
    unfold aggT at hb
    unfold Value.okWide at hok
    split at hb <;> simp_all
    · obtain ⟨cs, h, _⟩ := hok; exact ⟨cs, h⟩
    · obtain ⟨cs, h, _⟩ := hok; exact ⟨cs, h⟩
  obtain ⟨cs, rfl⟩ := hag
  obtain ⟨fuel, hf⟩ := ht
  have hf : DataW.trod enc P W base (fun _ => true) held fuel t cs.toList = some (dd, ps) := hf
  obtain ⟨xs, u, fuel', x', e1, w1, hx'⟩ := trod_last hk hf
  obtain ⟨m, hi, b1, b2, b3⟩ := open_mem hum hkm hlm h1 hx'
  obtain ⟨L, n1, r1, r2⟩ := rows_of_mem b3
  refine ⟨fun i => xs.getD i 0, m, fun j c => hi (j * ms.length + c), L, fun i k hi => wfsK_at w1 hi, b1, b2, n1, r1, fun φ id hφ => ⟨cs, rfl, ?_⟩⟩
  have e : mkF (fun i => xs.getD i 0) 0 ks1 = mksK ks1 xs := mkF_eq w1 fun j a ha => by simp [List.getD, ha]
  rw [e, e1]
  exact (rel_mksK φ ks1 xs).append ⟨r2 φ id hφ, trivial⟩
end
end Go.AM
end

/-
  The sum of bytes, step by step, in plain numbers.
-/
section
namespace Go.AM
open Go

def crcStep (r : Int) : Int := bits BinOp.xor IntKind.u32 (r.fdiv 2) (bits BinOp.and IntKind.u32 3988292384 (IntKind.u32.wrap (0 - bits BinOp.and IntKind.u32 r 1)))

def refStep (r : Int) : Int := bif bits BinOp.and IntKind.u32 r 1 == 1 then bits BinOp.xor IntKind.u32 (r.fdiv 2) 3988292384 else r.fdiv 2

def iter (f : Int → Int) : Nat → Int → Int
  | 0, r => r
  | n + 1, r => iter f n (f r)

def crcFold (f : Int → Int) (g : Nat → Int) : Nat → Nat → Int → Int
  | 0, _, r => r
  | m + 1, i, r => crcFold f g m (i + 1) (iter f 8 (bits BinOp.xor IntKind.u32 r (IntKind.u32.wrap (g i))))

/-! ### in plain numbers -/

def stpN (n : Nat) : Nat := n / 2 ^^^ (if n % 2 = 1 then 3988292384 else 0)

theorem stpN_lt {n : Nat} (h : n < 4294967296) : stpN n < 4294967296 := by
  have : stpN n < 2 ^ 32 := by
    unfold stpN
    refine Nat.xor_lt_two_pow (by omega) ?_
    split <;> decide
  simpa using this

theorem and_one (n : Nat) : n &&& 1 = n % 2 := Nat.and_one_is_mod n

theorem crcStep_nat {n : Nat} (h : n < 4294967296) : crcStep (n : Int) = stpN n := by
  unfold crcStep stpN
  have e1 : ((n : Int)).fdiv 2 = ((n / 2 : Nat) : Int) := by rw [Int.fdiv_eq_ediv_of_nonneg _ (by decide)]; rfl
  have e2 : bits BinOp.and IntKind.u32 (n : Int) 1 = ((n % 2 : Nat) : Int) := by
    rw [← and_one]; exact u32_and_nat n 1 h (by decide)
  rw [e1, e2]
  rcases Nat.mod_two_eq_zero_or_one n with h0 | h1
  · rw [h0]
    have : bits BinOp.and IntKind.u32 3988292384 (IntKind.u32.wrap (0 - ((0 : Nat) : Int))) = ((0 : Nat) : Int) := by decide +kernel
    rw [this, u32_xor_nat _ _ (by omega) (by decide)]
    simp
  · rw [h1]
    have : bits BinOp.and IntKind.u32 3988292384 (IntKind.u32.wrap (0 - ((1 : Nat) : Int))) = ((3988292384 : Nat) : Int) := by decide +kernel
    rw [this, u32_xor_nat _ _ (by omega) (by decide)]
    simp

theorem refStep_nat {n : Nat} (h : n < 4294967296) : refStep (n : Int) = stpN n := by
  unfold refStep stpN
  have e1 : ((n : Int)).fdiv 2 = ((n / 2 : Nat) : Int) := by rw [Int.fdiv_eq_ediv_of_nonneg _ (by decide)]; rfl
  have e2 : bits BinOp.and IntKind.u32 (n : Int) 1 = ((n % 2 : Nat) : Int) := by
    rw [← and_one]; exact u32_and_nat n 1 h (by decide)
  rw [e1, e2]
  rcases Nat.mod_two_eq_zero_or_one n with h0 | h1
  · simp [h0]
  · rw [h1]
    have := u32_xor_nat (n / 2) 3988292384 (by omega) (by decide)
    rw [if_pos rfl, ← this]
    rfl

def iterN : Nat → Nat → Nat
  | 0, r => r
  | n + 1, r => iterN n (stpN r)

theorem iterN_lt : ∀ {k n : Nat}, n < 4294967296 → iterN k n < 4294967296
  | 0, _, h => h
  | k + 1, _, h => iterN_lt (k := k) (stpN_lt h)

theorem iter_nat {f : Int → Int} (hf : ∀ n : Nat, n < 4294967296 → f (n : Int) = stpN n) : ∀ {k n : Nat}, n < 4294967296 → iter f k (n : Int) = iterN k n
  | 0, _, _ => rfl
  | k + 1, n, h => by
    rw [iter, hf n h, iter_nat hf (stpN_lt h)]
    rfl

def foldN (b : Nat → Nat) : Nat → Nat → Nat → Nat
  | 0, _, r => r
  | m + 1, i, r => foldN b m (i + 1) (iterN 8 (r ^^^ b i))

theorem xor_lt32 {a b : Nat} (ha : a < 4294967296) (hb : b < 4294967296) : a ^^^ b < 4294967296 := Nat.xor_lt_two_pow (n := 32) ha hb

theorem foldN_lt {b : Nat → Nat} : ∀ {m i r : Nat}, (∀ j, i ≤ j → j < i + m → b j < 256) → r < 4294967296 → foldN b m i r < 4294967296
  | 0, _, _, _, h => h
  | m + 1, i, r, hb, h => by
    have h0 := hb i (by omega) (by omega)
    rw [foldN]
    exact foldN_lt (fun j h1 h2 => hb j (by omega) (by omega)) (iterN_lt (xor_lt32 h (by omega)))

def IsBytes (m : Nat) (b : Nat → Int) : Prop := ∀ j, j < m → 0 ≤ b j ∧ b j < 256

theorem crcFold_nat {f : Int → Int} (hf : ∀ n : Nat, n < 4294967296 → f (n : Int) = stpN n) {b : Nat → Int} : ∀ {m i r : Nat}, (∀ j, i ≤ j → j < i + m → 0 ≤ b j ∧ b j < 256) → r < 4294967296 →
    crcFold f b m i (r : Int) = foldN (fun j => (b j).toNat) m i r
  | 0, _, _, _, _ => rfl
  | m + 1, i, r, hb, h => by
    have h0 := hb i (by omega) (by omega)
    have e : b i = ((b i).toNat : Int) := by omega
    have hlt : (b i).toNat < 256 := by omega
    rw [crcFold, e, wrap_u32 (by omega) (by omega), u32_xor_nat r _ h (by omega), iter_nat hf (xor_lt32 h (by omega)),
      crcFold_nat hf (fun j h1 h2 => hb j (by omega) (by omega)) (iterN_lt (xor_lt32 h (by omega)))]
    rfl

def crcN (x m : Nat) (b : Nat → Nat) : Nat := 4294967295 ^^^ foldN b m 0 (4294967295 ^^^ x)

def natB (b : Nat → Int) : Nat → Nat := fun j => (b j).toNat

def sumBy (f : Int → Int) (x : Int) (m : Nat) (b : Nat → Int) : Int := bits BinOp.xor IntKind.u32 4294967295 (crcFold f b m 0 (bits BinOp.xor IntKind.u32 4294967295 x))

theorem sumBy_nat {f : Int → Int} (hf : ∀ n : Nat, n < 4294967296 → f (n : Int) = stpN n) {b : Nat → Int} {m x : Nat} (hb : IsBytes m b) (hx : x < 4294967296) : sumBy f (x : Int) m b = crcN x m (natB b) := by
  have hb' : ∀ j, 0 ≤ j → j < 0 + m → 0 ≤ b j ∧ b j < 256 := fun j _ h => hb j (by omega)
  have hx' : 4294967295 ^^^ x < 4294967296 := xor_lt32 (by decide) hx
  have e1 : bits BinOp.xor IntKind.u32 4294967295 (x : Int) = ((4294967295 ^^^ x : Nat) : Int) := u32_xor_nat 4294967295 x (by decide) hx
  have hfl : foldN (natB b) m 0 (4294967295 ^^^ x) < 4294967296 := foldN_lt (fun j h1 h2 => by have := hb' j h1 h2; unfold natB; omega) hx'
  unfold sumBy
  rw [e1, crcFold_nat hf hb' hx']
  exact u32_xor_nat 4294967295 _ (by decide) hfl

theorem crcN_lt {x m : Nat} {b : Nat → Nat} (hb : ∀ j, j < m → b j < 256) (hx : x < 4294967296) : crcN x m b < 4294967296 :=
  xor_lt32 (by decide) (foldN_lt (fun j _ h => hb j (by omega)) (xor_lt32 (by decide) hx))

theorem foldN_congr {b c : Nat → Nat} : ∀ {m i r : Nat}, (∀ j, i ≤ j → j < i + m → b j = c j) → foldN b m i r = foldN c m i r
  | 0, _, _, _ => rfl
  | m + 1, i, r, h => by rw [foldN, foldN, h i (by omega) (by omega), foldN_congr fun j h1 h2 => h j (by omega) (by omega)]

theorem crcN_congr {b c : Nat → Nat} {x m : Nat} (h : ∀ j, j < m → b j = c j) : crcN x m b = crcN x m c := by
  unfold crcN
  rw [foldN_congr fun j _ h2 => h j (by omega)]

/-! ### laid over one another -/

/-! ### what is turned is seen -/

end Go.AM
end

/-
  The abstract machine, part 25: a loop's round, told by what each of its ways comes to.
-/
section
namespace Go.AM

theorem AtEq.symm {a b : At} (h : AtEq a b) : AtEq b a := by
  cases a <;> cases b <;> first
    | exact Eq.symm h
    | exact ⟨h.1.symm, fun i hi c => (h.2 i (h.1 ▸ hi) c).symm⟩
    | (obtain ⟨rfl, rfl, rfl, h4, h5⟩ := h
       exact ⟨rfl, rfl, rfl, fun i hi c => (h4 i hi c).symm, fun i hi k hk => (h5 i hi k (by rw [h4 i hi]; exact hk)).symm⟩)
theorem AtEq.trans {a b c : At} (h : AtEq a b) (k : AtEq b c) : AtEq a c := by
  cases a <;> cases b <;> cases c <;> first
    | exact Eq.trans h k
    | (cases h; done)
    | (cases k; done)
    | exact ⟨h.1.trans k.1, fun i hi c => (h.2 i hi c).trans (k.2 i (h.1 ▸ hi) c)⟩
    | (obtain ⟨rfl, rfl, rfl, h4, h5⟩ := h
       obtain ⟨rfl, rfl, rfl, k4, k5⟩ := k
       exact ⟨rfl, rfl, rfl, fun i hi c => (h4 i hi c).trans (k4 i hi c), fun i hi k hk => (h5 i hi k hk).trans (k5 i hi k (by rw [← h4 i hi]; exact hk))⟩)
theorem AtsEq.trans : ∀ {l m n : List At}, AtsEq l m → AtsEq m n → AtsEq l n
  | [], [], [], _, _ => trivial
  | _ :: _, _ :: _, _ :: _, h, k => ⟨h.1.trans k.1, AtsEq.trans h.2 k.2⟩
  | [], _ :: _, _, h, _ => h.elim
  | _ :: _, [], _, h, _ => h.elim
  | _, [], _ :: _, _, k => k.elim
  | _, _ :: _, [], _, k => k.elim

def RoundS (B O : List At → Tr (Ex × List At)) (μ : List At → Nat) (l : List At) (r : Ex × List At) : Prop :=
  (B l).sat fun p => (p.1 = .normal ∧ ∃ l2 r', AtsEq p.2 l2 ∧ μ l2 < μ l ∧ (O l2).val = some r' ∧ r'.1 = r.1 ∧ AtsEq r'.2 r.2) ∨ (p.1 ≠ .normal ∧ r.1 = p.1 ∧ AtsEq p.2 r.2)

theorem on_ {O : List At → Tr (Ex × List At)} {μ : List At → Nat} {l l1 : List At} {r : Ex × List At} (l2 : List At) (r' : Ex × List At) (h : AtsEq l1 l2) (hμ : μ l2 < μ l) (hO : (O l2).val = some r') (he : r'.1 = r.1) (hr : AtsEq r'.2 r.2) :
    (Tr.ok (Ex.normal, l1)).sat fun p => (p.1 = .normal ∧ ∃ l2 r', AtsEq p.2 l2 ∧ μ l2 < μ l ∧ (O l2).val = some r' ∧ r'.1 = r.1 ∧ AtsEq r'.2 r.2) ∨ (p.1 ≠ .normal ∧ r.1 = p.1 ∧ AtsEq p.2 r.2) :=
  Tr.sat_ok.2 (.inl ⟨rfl, l2, r', h, hμ, hO, he, hr⟩)

theorem out_ {O : List At → Tr (Ex × List At)} {μ : List At → Nat} {l l1 : List At} {e : Ex} {r : Ex × List At} (hn : e ≠ .normal) (he : r.1 = e) (hr : AtsEq l1 r.2) :
    (Tr.ok (e, l1)).sat fun p => (p.1 = .normal ∧ ∃ l2 r', AtsEq p.2 l2 ∧ μ l2 < μ l ∧ (O l2).val = some r' ∧ r'.1 = r.1 ∧ AtsEq r'.2 r.2) ∨ (p.1 ≠ .normal ∧ r.1 = p.1 ∧ AtsEq p.2 r.2) :=
  Tr.sat_ok.2 (.inr ⟨hn, he, hr⟩)

section
variable {P : Program} {Γ : Specs} {sy : Nat → Option Nat} {Lp : Loops} {fuel : Nat}

theorem loop_sat (hΓ : SpecOK P Γ) (hm : P.follows .mixedOrders = true) {k : Nat} {c : Code} (hL : LoopsOK P k Lp c) {lsh : FSh} {xs : Exs} (hx : xs .normal = some lsh) {Bd O : List At → Tr (Ex × List At)} {μ : List At → Nat}
    (eB : ∀ l, (exec P Γ sy Lp fuel c ⟨mkV lsh l, mkH lsh l⟩).bind (leafL k xs) = Bd l) (h : ∀ l r, (O l).val = some r → RoundS Bd O μ l r) : LoopF P k c (loopFn k lsh xs O) := by
  intro s r hr B φ a w Q hI hE hQ
  unfold loopFn at hr
  split at hr
  · rename_i σ l ht
    rw [Tr.val_bind] at hr
    obtain ⟨⟨e, l'⟩, hO, hr⟩ := Option.bind_eq_some_iff.1 hr
    split at hr
    · rename_i sh hsh
      have := val_ok hr
      subst this
      obtain ⟨φ1, i1, i2⟩ := inv_take B hI hE ht (AtsEq.refl l)
      have key : ∀ (m : Nat) (l1 : List At) (r1 : Ex × List At) (φ' : Phi) (a' : Act) (w' : World), μ l1 < m → (O l1).val = some r1 → r1.1 = e → AtsEq r1.2 l' → Inv φ' ⟨mkV lsh l1, mkH lsh l1⟩ a' w' → Ext B.φ B.H B.w φ' (mkH lsh l1) w' →
          ∀ (b : Frame) (kk : List Item) (cs : List Frame), ∃ e2 a2 w2, Q e2 a2 w2 ∧ Arrives P (lone (b.at a' (.code c :: .inLoop c :: kk)) cs w') b kk cs e2 a2 w2 := by
        intro m
        induction m with
        | zero => intro l1 r1 φ' a' w' hm; omega
        | succ m ih =>
          intro l1 rr φ' a' w' hm1 hO1 he1 hl1 hI' hE' b kk cs
          have body : ∀ {r1 : Ex × List At}, (Bd l1).val = some r1 → ∃ r2 : Ex × ASt, (exec P Γ sy Lp fuel c ⟨mkV lsh l1, mkH lsh l1⟩).val = some r2 ∧ r2.1 = r1.1 ∧ ∃ sh1 σ1 H2, xs r1.1 = some sh1 ∧ Words r2.2.hp H2 ∧ takeF k sh1 r2.2.tm H2 = some (σ1, r1.2) := by
            intro r1 hr1
            rw [← eB l1, Tr.val_bind] at hr1
            obtain ⟨r2, g1, g2⟩ := Option.bind_eq_some_iff.1 hr1
            exact ⟨r2, g1, leafL_val g2⟩
          obtain ⟨⟨e1, l2⟩, g1, hcase⟩ := h l1 rr hO1
          rcases hcase with ⟨h1, l3, r3, g2, g3, g4, g5, g6⟩ | ⟨hne, g3, g4⟩
          · simp only at h1 g2
            subst h1
            obtain ⟨⟨re, rs⟩, q1, q2, sh1, σ1, H2, q3, qw, q4⟩ := body g1
            simp only at q2 q3 q4
            subst q2
            rw [hx] at q3
            cases q3
            have hg := exec_goes hΓ hm c hL _ _ q1
            have hw := hg B φ' a' w' (fun e2 a2 w2 => e2 = .normal ∧ ∃ φ2, Inv φ2 rs a2 w2 ∧ Ext B.φ B.H B.w φ2 rs.hp w2) hI' hE' (fun φ2 a2 w2 i1 i2 => ⟨rfl, φ2, i1, i2⟩)
            obtain ⟨e2, a2, w2, ⟨rfl, φ2, j1, j2⟩, harr⟩ := hw b (.inLoop c :: kk) cs
            obtain ⟨φ3, j3, j4⟩ := inv_takeW B j1 j2 qw q4 g2
            obtain ⟨e3, a3, w3, hq3, harr3⟩ := ih l3 r3 φ3 a2 w2 (by omega) g4 (g5.trans he1) (g6.trans hl1) j3 j4 b kk cs
            exact ⟨e3, a3, w3, hq3, .of_steps (Steps.trans harr (.one step_inLoop)) harr3⟩
          · simp only at hne g3 g4
            obtain ⟨⟨re, rs⟩, q1, q2, sh1, σ1, H2, q3, qw, q4⟩ := body g1
            simp only at q2 q3 q4
            subst q2
            rw [he1] at g3
            subst g3
            rw [hsh] at q3
            cases q3
            have hg := exec_goes hΓ hm c hL _ _ q1
            have hw := hg B φ' a' w' (fun e2 a2 w2 => e2 = e.toExit ∧ Q e2 a2 w2) hI' hE' (fun φ2 a2 w2 i1 i2 => by
              obtain ⟨φ3, j3, j4⟩ := inv_takeW B i1 i2 qw q4 (g4.trans hl1)
              exact ⟨rfl, hQ φ3 a2 w2 j3 j4⟩)
            obtain ⟨e2, a2, w2, ⟨rfl, hq⟩, harr⟩ := hw b (.inLoop c :: kk) cs
            have hne' : e.toExit ≠ .normal := by
              cases e with
              | normal => exact absurd rfl hne
              | exit id => simp [Ex.toExit]
              | ret => simp [Ex.toExit]
            refine ⟨_, a2, w2, hq, .pass (x := .inLoop c) ?_ (fun _ _ => .inl hne') harr⟩
            cases e <;> first
              | exact absurd rfl hne
              | rfl
      intro b kk cs
      obtain ⟨e2, a2, w2, hq, harr⟩ := key (μ l + 1) l (e, l') φ1 a w (by omega) hO rfl (AtsEq.refl _) i1 i2 b kk cs
      exact ⟨e2, a2, w2, hq, .of_steps (.one step_loop) harr⟩
    · simp [Tr.val] at hr
  · simp [Tr.val] at hr
end

/-! ### what stands in a tree's result -/

section
variable {α : Type} {i : Nat} {c : Bool} {t e : Tr α} {Q : α → Prop}
theorem brT (h : c = true) (ht : t.sat Q) : (Tr.br i c t e).sat Q := by
  obtain ⟨r, h1, h2⟩ := ht
  exact ⟨r, (br_t h).trans h1, h2⟩
theorem brF (h : c = false) (ht : e.sat Q) : (Tr.br i c t e).sat Q := by
  obtain ⟨r, h1, h2⟩ := ht
  exact ⟨r, (br_f h).trans h1, h2⟩
theorem brD {p : Prop} [Decidable p] (ht : p → t.sat Q) (he : ¬ p → e.sat Q) : (Tr.br i (decide p) t e).sat Q := Tr.sat_br.2 ⟨fun h => ht (of_decide_eq_true h), fun h => he (of_decide_eq_false h)⟩
theorem brQ {x y : Int} (ht : x = y → t.sat Q) (he : x ≠ y → e.sat Q) : (Tr.br i (x == y) t e).sat Q := Tr.sat_br.2 ⟨fun h => ht (by simpa using h), fun h => he (by simpa using h)⟩
theorem brNE {x y : Int} (ht : x ≠ y → t.sat Q) (he : x = y → e.sat Q) : (Tr.br i (x != y) t e).sat Q := Tr.sat_br.2 ⟨fun h => ht (by simpa using h), fun h => he (by simpa using h)⟩
theorem brW {x : Int} {n : Nat} (ht : 0 ≤ x ∧ x < (n : Int) → t.sat Q) (he : ¬ (0 ≤ x ∧ x < (n : Int)) → e.sat Q) : (Tr.br i (within x n) t e).sat Q :=
  Tr.sat_br.2 ⟨fun h => ht (by simpa [within] using h), fun h => he (fun hh => by simp [within, hh] at h)⟩
theorem brN {b : Bool} (ht : b = false → t.sat Q) (he : b = true → e.sat Q) : (Tr.br i (!b) t e).sat Q := Tr.sat_br.2 ⟨fun h => ht (by simpa using h), fun h => he (by simpa using h)⟩
theorem brC (ht : c = true → t.sat Q) (he : c = false → e.sat Q) : (Tr.br i c t e).sat Q := Tr.sat_br.2 ⟨ht, he⟩
end
end Go.AM
end
