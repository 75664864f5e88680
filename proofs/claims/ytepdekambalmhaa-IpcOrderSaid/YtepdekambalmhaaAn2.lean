/-
  The abstract machine, part 18: what is taken out of a state stands for what the state stands for.
-/
import Derived.Test.YtepdekambalmhaaAn1
namespace Go.AM

def SrcOK (φ : Phi) : Src → Loc → Prop
  | .blk c, L => φ[c]? = some L
  | .view c wd i len, L => (len = 0 ∧ L.sz = 0 ∧ L.n = 0) ∨ ∃ L1, φ[c]? = some L1 ∧ i + len ≤ L1.n ∧ L = ⟨L1.b, L1.base + i * wd, len * wd, len, .nil⟩
  | .cview c wd o len, L => (len = 0 ∧ L.sz = 0 ∧ L.n = 0) ∨ ∃ L1, φ[c]? = some L1 ∧ L = ⟨L1.b, L1.base + o, len * wd, len, .nil⟩
  | .fresh, L => L.sz = 0 ∧ L.n = 0
  | .opq a, L => relS φ a L.x.val

def shRel (bs : List BSh) (φ : Phi) : Sh → List At → Value → Prop
  | .k .b, [.b x], v => v = .bool x
  | .k (.n k), [.i x], v => v = .int k x
  | .p id o, [], v => relS φ (.p id o) v
  | .pr id wd c, [.n i], v => relS φ (.pr id wd i c) v
  | .sw id wd, [], v => ∃ L, φ[id]? = some L ∧ relS φ (.slw id wd L.n) v ∧ isRows bs id = true
  | .sq id wd, [.n i, .n len], v => relS φ (.slq id wd i len) v
  | .vw id wd, [], v => ∃ L, φ[id]? = some L ∧ relS φ (.slq id wd 0 L.n) v ∧ isRows bs id = true
  | .opq id, [], v => relS φ (.opq id) v
  | .pnil, [], v => v = .pointer none
  | .slnil, [], v => v = .slice none 0 0
  | .fnil, [], v => v = .nilFunc
  | .fn f caps, [], v => relS φ (.fn f caps) v
  | _, _, _ => False

def shRels (bs : List BSh) (φ : Phi) : List Sh → List At → List Value → Prop
  | [], as, vs => as = [] ∧ vs = []
  | s :: r, as, vs => ∃ a1 a2 v vs', as = a1 ++ a2 ∧ vs = v :: vs' ∧ shRel bs φ s a1 v ∧ shRels bs φ r a2 vs'

theorem shRel.mono {bs : List BSh} {φ : Phi} (ψ : Phi) {s : Sh} {as : List At} {v : Value} (h : shRel bs φ s as v) : shRel bs (φ ++ ψ) s as v := by
  unfold shRel at h ⊢
  split at h
  · exact h
  · exact h
  · exact relS.mono ψ h
  · exact relS.mono ψ h
  · obtain ⟨L, h1, h2, h3⟩ := h; exact ⟨L, get_prefix h1, relS.mono ψ h2, h3⟩
  · exact relS.mono ψ h
  · obtain ⟨L, h1, h2, h3⟩ := h; exact ⟨L, get_prefix h1, relS.mono ψ h2, h3⟩
  · exact relS.mono ψ h
  · exact h
  · exact h
  · exact h
  · exact relS.mono ψ h
  · exact h.elim

theorem shRels.mono {bs : List BSh} {φ : Phi} (ψ : Phi) : ∀ {s : List Sh} {as : List At} {vs : List Value}, shRels bs φ s as vs → shRels bs (φ ++ ψ) s as vs
  | [], _, _, h => h
  | _ :: _, _, _, ⟨a1, a2, v, vs', h1, h2, h3, h4⟩ => ⟨a1, a2, v, vs', h1, h2, h3.mono ψ, shRels.mono ψ h4⟩

theorem All2.get_of {α β : Type} {R : α → β → Prop} {l : List α} {m : List β} (h : All2 R l m) {i : Nat} {a : α} {b : β} (ha : l[i]? = some a) (hb : m[i]? = some b) : R a b := by
  obtain ⟨b', h1, h2⟩ := h.get ha
  rw [hb] at h1; cases h1; exact h2

section
variable {φ : Phi} {H : AH} {bs : List BSh}

/-- One more source. -/
theorem push_src {σ : List Src} {φσ : Phi} (h : All2 (SrcOK φ) σ φσ) {s : Src} {L : Loc} (hs : SrcOK φ s L) : All2 (SrcOK φ) (σ ++ [s]) (φσ ++ [L]) ∧ (φσ ++ [L])[σ.length]? = some L := by
  refine ⟨h.append ⟨hs, trivial⟩, ?_⟩
  rw [h.length_eq]; simp

theorem bindId_sound {σ σ' : List Src} {φσ : Phi} {id cid : Nat} {L : Loc} (h : bindId σ id cid = some σ') (hσ : All2 (SrcOK φ) σ φσ) (hL : φ[cid]? = some L) :
    ∃ ψ, All2 (SrcOK φ) σ' (φσ ++ ψ) ∧ (φσ ++ ψ)[id]? = some L ∧ ∃ τ, σ' = σ ++ τ := by
  unfold bindId at h
  split at h
  · rename_i c hc
    split at h
    · rename_i hb
      obtain rfl := Option.some.inj h
      have := Nat.eq_of_beq_eq_true hb
      subst this
      obtain ⟨L', h1, h2⟩ := hσ.get hc
      simp only [SrcOK] at h2
      rw [hL] at h2; cases h2
      exact ⟨[], by simpa using hσ, by simpa using h1, [], by simp⟩
    · cases h
  · cases h
  · split at h
    · rename_i hb
      obtain rfl := Option.some.inj h
      have := Nat.eq_of_beq_eq_true hb
      subst this
      obtain ⟨h1, h2⟩ := push_src (s := .blk cid) hσ hL
      exact ⟨[L], h1, h2, _, rfl⟩
    · cases h

theorem bindCaps_sound : ∀ {caps caps' : List (Nat × Nat)} {σ σ' : List Src} {φσ : Phi} {cs : List Value}, bindCaps σ caps caps' = some σ' → All2 (SrcOK φ) σ φσ →
    All2 (fun (c : Nat × Nat) u => ∃ L, φ[c.1]? = some L ∧ u = .pointer (some ⟨L.b, L.base + c.2, none⟩)) caps' cs →
    ∃ ψ, All2 (SrcOK φ) σ' (φσ ++ ψ) ∧ All2 (fun (c : Nat × Nat) u => ∃ L, (φσ ++ ψ)[c.1]? = some L ∧ u = .pointer (some ⟨L.b, L.base + c.2, none⟩)) caps cs ∧ ∃ τ, σ' = σ ++ τ
  | [], [], σ, σ', φσ, cs, h, hσ, hc => by
    simp only [bindCaps, Option.some.injEq] at h
    subst h
    cases cs with
    | nil => exact ⟨[], by simpa using hσ, trivial, [], by simp⟩
    | cons _ _ => exact hc.elim
  | (id, o) :: r, (cid, o') :: r', σ, σ', φσ, cs, h, hσ, hc => by
    simp only [bindCaps] at h
    split at h
    · rename_i hb
      have := Nat.eq_of_beq_eq_true hb
      subst this
      split at h
      · rename_i σ1 h1
        cases cs with
        | nil => exact hc.elim
        | cons c cs =>
          obtain ⟨⟨L, hL, rfl⟩, hcs⟩ := hc
          obtain ⟨ψ, e1, e2, τ, e3⟩ := bindId_sound h1 hσ hL
          obtain ⟨ψ', f1, f2, τ', f3⟩ := bindCaps_sound h e1 hcs
          refine ⟨ψ ++ ψ', by rw [← List.append_assoc]; exact f1, ?_, τ ++ τ', by rw [f3, e3]; simp⟩
          rw [← List.append_assoc]
          exact ⟨⟨L, get_prefix e2, rfl⟩, f2⟩
      · cases h
    · cases h
  | [], _ :: _, _, _, _, _, h, _, _ => by simp [bindCaps] at h
  | _ :: _, [], _, _, _, _, h, _, _ => by simp [bindCaps] at h

theorem opq_fresh {a : AS} {v : Value} (ha : opqOk a = true) (h : relS φ a v) : v.oneCell' = true ∧ (∀ k n, v ≠ .int k n) ∧ ∀ s, v ≠ .string s := by
  refine ⟨relS.oneCell h, fun k n => ?_, fun s => ?_⟩
  · cases a <;> simp [opqOk] at ha <;> simp only [relS] at h
    case p => obtain ⟨_, _, rfl⟩ := h; simp
    case pr => obtain ⟨_, _, _, rfl⟩ := h; simp
    case px => obtain ⟨_, _, _, _, rfl⟩ := h; simp
    case pnil => subst h; simp
    case sl => rcases h with ⟨_, _, rfl⟩ | ⟨_, _, _, _, rfl⟩ <;> simp
    case slr => rcases h with ⟨_, _, _, rfl⟩ | ⟨_, _, _, _, _, _, _, rfl⟩ <;> simp
    case slc => rcases h with ⟨_, _, rfl⟩ | ⟨_, _, _, _, rfl⟩ <;> simp
    case slq => rcases h with ⟨_, _, rfl⟩ | ⟨_, _, _, _, _, rfl⟩ <;> simp
    case slw => rcases h with ⟨_, _, _, ⟨_, _, rfl⟩ | ⟨_, _, _, rfl⟩⟩ <;> simp
    case slnil => subst h; simp
    case fn => obtain ⟨_, rfl, _⟩ := h; simp
    case fnil => subst h; simp
  · cases a <;> simp [opqOk] at ha <;> simp only [relS] at h
    case p => obtain ⟨_, _, rfl⟩ := h; simp
    case pr => obtain ⟨_, _, _, rfl⟩ := h; simp
    case px => obtain ⟨_, _, _, _, rfl⟩ := h; simp
    case pnil => subst h; simp
    case sl => rcases h with ⟨_, _, rfl⟩ | ⟨_, _, _, _, rfl⟩ <;> simp
    case slr => rcases h with ⟨_, _, _, rfl⟩ | ⟨_, _, _, _, _, _, _, rfl⟩ <;> simp
    case slc => rcases h with ⟨_, _, rfl⟩ | ⟨_, _, _, _, rfl⟩ <;> simp
    case slq => rcases h with ⟨_, _, rfl⟩ | ⟨_, _, _, _, _, rfl⟩ <;> simp
    case slw => rcases h with ⟨_, _, _, ⟨_, _, rfl⟩ | ⟨_, _, _, rfl⟩⟩ <;> simp
    case slnil => subst h; simp
    case fn => obtain ⟨_, rfl, _⟩ := h; simp
    case fnil => subst h; simp

/-- What a taken part comes to. -/
def Taken (φ : Phi) (σ σ' : List Src) (φσ : Phi) (R : Phi → Prop) : Prop := ∃ ψ, All2 (SrcOK φ) σ' (φσ ++ ψ) ∧ R (φσ ++ ψ) ∧ ∃ τ, σ' = σ ++ τ

theorem taken_bind {σ σ' : List Src} {φσ : Phi} {id cid : Nat} {as as' : List At} {L : Loc} {R : Phi → Prop} (h : (bindId σ id cid).map (fun σ' => (σ', as')) = some (σ', as)) (hσ : All2 (SrcOK φ) σ φσ) (hL : φ[cid]? = some L)
    (hR : ∀ φ1, φ1[id]? = some L → as = as' → R φ1) : Taken φ σ σ' φσ R := by
  obtain ⟨σ1, h1, h2⟩ := Option.map_eq_some_iff.1 h
  simp only [Prod.mk.injEq] at h2
  obtain ⟨rfl, rfl⟩ := h2
  obtain ⟨ψ, e1, e2, τ, e3⟩ := bindId_sound h1 hσ hL
  exact ⟨ψ, e1, hR _ e2 rfl, τ, e3⟩

theorem taken_push {σ : List Src} {φσ : Phi} {s : Src} {L : Loc} {R : Phi → Prop} (hσ : All2 (SrcOK φ) σ φσ) (hs : SrcOK φ s L) (hR : ∀ φ1, φ1[σ.length]? = some L → R φ1) : Taken φ σ (σ ++ [s]) φσ R := by
  obtain ⟨h1, h2⟩ := push_src hσ hs
  exact ⟨[L], h1, hR _ h2, _, rfl⟩

theorem taken_same {σ : List Src} {φσ : Phi} {R : Phi → Prop} (hσ : All2 (SrcOK φ) σ φσ) (hR : R φσ) : Taken φ σ σ φσ R := ⟨[], by simpa using hσ, by simpa using hR, [], by simp⟩

/-- A source that no value tells, where the slice is none. -/
theorem taken_bind0 {σ σ' : List Src} {φσ : Phi} {id cid : Nat} {as as' : List At} {R : Phi → Prop} (h : (bindId σ id cid).map (fun σ' => (σ', as')) = some (σ', as)) (hσ : All2 (SrcOK φ) σ φσ) (hL : ∃ L, φ[cid]? = some L)
    (hR : ∀ φ1, as = as' → R φ1) : Taken φ σ σ' φσ R := by
  obtain ⟨L, hL⟩ := hL
  exact taken_bind h hσ hL fun φ1 _ e => hR φ1 e

theorem get_of_len {φ : Phi} {N id : Nat} (hN : φ.length = N) (h : id < N) : ∃ L, φ[id]? = some L := ⟨φ[id]'(by omega), List.getElem?_eq_getElem (by omega)⟩

theorem takeS_sound {N : Nat} (hN : φ.length = N) {σ σ' : List Src} {φσ : Phi} {s : Sh} {a : AS} {as : List At} {v : Value} (h : takeS bs N σ s a = some (σ', as)) (hσ : All2 (SrcOK φ) σ φσ) (hv : relS φ a v) :
    Taken φ σ σ' φσ fun φ1 => shRel bs φ1 s as v := by
  unfold takeS at h
  split at h
  · cases h; exact taken_same hσ hv
  · split at h
    · rename_i hk; subst hk; cases h; exact taken_same hσ hv
    · cases h
  · rename_i id o cid o'
    split at h
    · rename_i hb
      have := Nat.eq_of_beq_eq_true hb
      subst this
      obtain ⟨L, hL, rfl⟩ := hv
      refine taken_bind h hσ hL fun φ1 h1 e => ?_
      subst e
      exact ⟨L, h1, rfl⟩
    · cases h
  · rename_i id wd c cid wd' i c'
    split at h
    · rename_i hb hb'
      have := Nat.eq_of_beq_eq_true hb
      subst this
      have := Nat.eq_of_beq_eq_true hb'
      subst this
      obtain ⟨L, hL, hi, rfl⟩ := hv
      refine taken_bind h hσ hL fun φ1 h1 e => ?_
      subst e
      exact ⟨L, h1, hi, rfl⟩
    · cases h
  · rename_i id wd cid wd' n
    split at h
    · rename_i hb hrw
      have := Nat.eq_of_beq_eq_true hb
      subst this
      obtain ⟨L, hL, hn, hv⟩ := hv
      subst hn
      refine taken_bind h hσ hL fun φ1 h1 e => ?_
      subst e
      exact ⟨L, h1, ⟨L, h1, rfl, hv⟩, hrw⟩
    · cases h
  · rename_i id wd cid wd' n cp
    split at h
    · rename_i hb hrw
      have := Nat.eq_of_beq_eq_true hb
      subst this
      obtain ⟨L, hL, hn, hv⟩ := slw_of_slk hv
      subst hn
      refine taken_bind h hσ hL fun φ1 h1 e => ?_
      subst e
      exact ⟨L, h1, ⟨L, h1, rfl, hv⟩, hrw⟩
    · cases h
  · rename_i id wd
    split at h
    · rename_i hb hrw
      have := Nat.eq_of_beq_eq_true hb
      subst this
      cases h
      simp only [relS] at hv
      subst hv
      refine taken_push (L := ⟨0, 0, 0, 0, .nil⟩) hσ ⟨rfl, rfl⟩ fun φ1 h1 => ?_
      exact ⟨_, h1, ⟨_, h1, rfl, .inl ⟨rfl, none, rfl⟩⟩, hrw⟩
    · cases h
  · rename_i id wd
    split at h
    · rename_i cid wd' i len hvw
      split at h
      · rename_i hb
        have := Nat.eq_of_beq_eq_true hb
        subst this
        split at h
        · rename_i hlt
          have hlt : cid < N := by simpa using hlt
          rcases viewT_rel hvw hv with ⟨h0, a0, rfl⟩ | ⟨L, cap, hL, hle, hin, rfl⟩
          · refine taken_bind0 h hσ (get_of_len hN hlt) fun φ1 e => ?_
            subst e
            exact .inl ⟨h0, a0, rfl⟩
          · refine taken_bind h hσ hL fun φ1 h1 e => ?_
            subst e
            exact .inr ⟨L, cap, h1, hle, hin, rfl⟩
        · cases h
      · cases h
    · cases h
  · rename_i id wd
    split at h
    · rename_i hb hrw
      have := Nat.eq_of_beq_eq_true hb
      subst this
      split at h
      · rename_i cid wd' i len hvw
        split at h
        · rename_i hb
          have := Nat.eq_of_beq_eq_true hb
          subst this
          cases h
          rcases viewT_rel hvw hv with ⟨h0, a0, rfl⟩ | ⟨L, cap, hL, hle, hin, rfl⟩
          · refine taken_push (L := ⟨0, 0, 0, 0, .nil⟩) hσ (.inl ⟨h0, rfl, rfl⟩) fun φ1 h1 => ?_
            exact ⟨_, h1, .inl ⟨rfl, a0, rfl⟩, hrw⟩
          · refine taken_push (L := ⟨L.b, L.base + i * wd, len * wd, len, .nil⟩) hσ (.inr ⟨L, hL, hin, rfl⟩) fun φ1 h1 => ?_
            exact ⟨_, h1, .inr ⟨_, cap, h1, hle, by simp, by simp⟩, hrw⟩
        · cases h
      · split at h
        · rename_i cid wd' o len _
          split at h
          · rename_i hb
            have := Nat.eq_of_beq_eq_true hb
            subst this
            cases h
            rcases hv with ⟨h0, a0, rfl⟩ | ⟨L, cap, hL, hle, rfl⟩
            · refine taken_push (L := ⟨0, 0, 0, 0, .nil⟩) hσ (.inl ⟨h0, rfl, rfl⟩) fun φ1 h1 => ?_
              exact ⟨_, h1, .inl ⟨rfl, a0, rfl⟩, hrw⟩
            · refine taken_push (L := ⟨L.b, L.base + o, len * wd, len, .nil⟩) hσ (.inr ⟨L, hL, rfl⟩) fun φ1 h1 => ?_
              exact ⟨_, h1, .inr ⟨_, cap, h1, hle, by simp, by simp⟩, hrw⟩
          · cases h
        · cases h
          simp only [relS] at hv
          subst hv
          refine taken_push (L := ⟨0, 0, 0, 0, .nil⟩) hσ ⟨rfl, rfl⟩ fun φ1 h1 => ?_
          exact ⟨_, h1, .inl ⟨rfl, none, rfl⟩, hrw⟩
        · cases h
    · cases h
  · rename_i id cid
    obtain ⟨L, hL, hv⟩ := hv
    refine taken_bind h hσ hL fun φ1 h1 e => ?_
    subst e
    exact ⟨L, h1, hv⟩
  · rename_i id _
    split at h
    · rename_i hb hk
      have := Nat.eq_of_beq_eq_true hb
      subst this
      cases h
      refine taken_push (L := ⟨0, 0, 0, 0, ⟨v⟩⟩) hσ hv fun φ1 h1 => ?_
      exact ⟨_, h1, rfl, opq_fresh hk hv⟩
    · cases h
  · cases h; exact taken_same hσ hv
  · cases h; exact taken_same hσ hv
  · cases h; exact taken_same hσ hv
  · rename_i f caps f' caps'
    split at h
    · rename_i hb
      have := Nat.eq_of_beq_eq_true hb
      subst this
      obtain ⟨σ1, h1, h2⟩ := Option.map_eq_some_iff.1 h
      simp only [Prod.mk.injEq] at h2
      obtain ⟨rfl, rfl⟩ := h2
      obtain ⟨cs, rfl, hcs⟩ := hv
      obtain ⟨ψ, e1, e2, τ, e3⟩ := bindCaps_sound h1 hσ hcs
      exact ⟨ψ, e1, ⟨cs, rfl, e2⟩, τ, e3⟩
    · cases h
  · cases h

theorem takeL_sound {N : Nat} (hN : φ.length = N) : ∀ {ss : List Sh} {as : List AS} {σ σ' : List Src} {φσ : Phi} {l : List At} {vs : List Value}, takeL bs N σ ss as = some (σ', l) → All2 (SrcOK φ) σ φσ → All2 (relS φ) as vs →
    (Taken φ σ σ' φσ fun φ1 => shRels bs φ1 ss l vs) ∧ ss.length = as.length
  | [], [], σ, σ', φσ, l, vs, h, hσ, hv => by
    cases h
    cases vs with
    | nil => exact ⟨taken_same hσ ⟨rfl, rfl⟩, rfl⟩
    | cons _ _ => exact hv.elim
  | s :: ss, a :: as, σ, σ', φσ, l, vs, h, hσ, hv => by
    simp only [takeL] at h
    split at h
    · rename_i σ1 x h1
      split at h
      · rename_i σ2 y h2
        cases h
        cases vs with
        | nil => exact hv.elim
        | cons v vs =>
          obtain ⟨ψ, e1, e2, τ, e3⟩ := takeS_sound hN h1 hσ hv.1
          obtain ⟨⟨ψ', f1, f2, τ', f3⟩, f4⟩ := takeL_sound hN h2 e1 hv.2
          refine ⟨⟨ψ ++ ψ', by rw [← List.append_assoc]; exact f1, ⟨x, y, v, vs, rfl, rfl, ?_, by rw [← List.append_assoc]; exact f2⟩, τ ++ τ', by rw [f3, e3]; simp⟩, by simp [f4]⟩
          rw [← List.append_assoc]
          exact e2.mono ψ'
      · cases h
    · cases h
  | [], _ :: _, _, _, _, _, _, h, _, _ => by simp [takeL] at h
  | _ :: _, [], _, _, _, _, _, h, _, _ => by simp [takeL] at h

def avRel (bs : List BSh) (φ : Phi) : Bool × List Sh → List At → Value → Prop
  | (true, r), as, v => ∃ cs : Array Value, v = .agg cs ∧ shRels bs φ r as cs.toList
  | (false, [s]), as, v => shRel bs φ s as v
  | _, _, _ => False

def avRels (bs : List BSh) (φ : Phi) : List (Bool × List Sh) → List At → List Value → Prop
  | [], as, vs => as = [] ∧ vs = []
  | s :: r, as, vs => ∃ a1 a2 v vs', as = a1 ++ a2 ∧ vs = v :: vs' ∧ avRel bs φ s a1 v ∧ avRels bs φ r a2 vs'

def tRel (bs : List BSh) (φ : Phi) : TSh → List At → Value → Prop
  | .v b r, as, v => avRel bs φ (b, r) as v
  | .tup r, as, v => ∃ vs : Array Value, v = .tuple vs ∧ avRels bs φ r as vs.toList
  | .any, as, _ => as = []

def tRels (bs : List BSh) (φ : Phi) : List TSh → List At → List Value → Prop
  | [], as, vs => as = [] ∧ vs = []
  | s :: r, as, vs => ∃ a1 a2 v vs', as = a1 ++ a2 ∧ vs = v :: vs' ∧ tRel bs φ s a1 v ∧ tRels bs φ r a2 vs'

theorem avRel.mono {bs : List BSh} {φ : Phi} (ψ : Phi) {s : Bool × List Sh} {as : List At} {v : Value} (h : avRel bs φ s as v) : avRel bs (φ ++ ψ) s as v := by
  unfold avRel at h ⊢
  split at h
  · obtain ⟨cs, h1, h2⟩ := h; exact ⟨cs, h1, h2.mono ψ⟩
  · exact h.mono ψ
  · exact h.elim

theorem avRels.mono {bs : List BSh} {φ : Phi} (ψ : Phi) : ∀ {s : List (Bool × List Sh)} {as : List At} {vs : List Value}, avRels bs φ s as vs → avRels bs (φ ++ ψ) s as vs
  | [], _, _, h => h
  | _ :: _, _, _, ⟨a1, a2, v, vs', h1, h2, h3, h4⟩ => ⟨a1, a2, v, vs', h1, h2, h3.mono ψ, avRels.mono ψ h4⟩

theorem tRel.mono {bs : List BSh} {φ : Phi} (ψ : Phi) {s : TSh} {as : List At} {v : Value} (h : tRel bs φ s as v) : tRel bs (φ ++ ψ) s as v := by
  cases s with
  | v b r => exact avRel.mono ψ h
  | tup r => obtain ⟨vs, h1, h2⟩ := h; exact ⟨vs, h1, h2.mono ψ⟩
  | any => exact h

theorem tRels.mono {bs : List BSh} {φ : Phi} (ψ : Phi) : ∀ {s : List TSh} {as : List At} {vs : List Value}, tRels bs φ s as vs → tRels bs (φ ++ ψ) s as vs
  | [], _, _, h => h
  | _ :: _, _, _, ⟨a1, a2, v, vs', h1, h2, h3, h4⟩ => ⟨a1, a2, v, vs', h1, h2, h3.mono ψ, tRels.mono ψ h4⟩

theorem takeA_sound {N : Nat} (hN : φ.length = N) {s : Bool × List Sh} {a : AV} {σ σ' : List Src} {φσ : Phi} {l : List At} {v : Value} (h : takeA bs N σ s a = some (σ', l)) (hσ : All2 (SrcOK φ) σ φσ) (hv : relA φ a v) :
    Taken φ σ σ' φσ fun φ1 => avRel bs φ1 s l v := by
  unfold takeA at h
  split at h
  · obtain ⟨cs, rfl, hcs⟩ := hv
    obtain ⟨⟨ψ, e1, e2, e3⟩, _⟩ := takeL_sound hN h hσ hcs
    exact ⟨ψ, e1, ⟨cs, rfl, e2⟩, e3⟩
  · exact takeS_sound hN h hσ hv
  · cases h

theorem takeAs_sound {N : Nat} (hN : φ.length = N) : ∀ {ss : List (Bool × List Sh)} {as : List AV} {σ σ' : List Src} {φσ : Phi} {l : List At} {vs : List Value}, takeAs bs N σ ss as = some (σ', l) → All2 (SrcOK φ) σ φσ → All2 (relA φ) as vs →
    Taken φ σ σ' φσ fun φ1 => avRels bs φ1 ss l vs
  | [], [], σ, σ', φσ, l, vs, h, hσ, hv => by
    cases h
    cases vs with
    | nil => exact taken_same hσ ⟨rfl, rfl⟩
    | cons _ _ => exact hv.elim
  | s :: ss, a :: as, σ, σ', φσ, l, vs, h, hσ, hv => by
    simp only [takeAs] at h
    split at h
    · rename_i σ1 x h1
      split at h
      · rename_i σ2 y h2
        cases h
        cases vs with
        | nil => exact hv.elim
        | cons v vs =>
          obtain ⟨ψ, e1, e2, τ, e3⟩ := takeA_sound hN h1 hσ hv.1
          obtain ⟨ψ', f1, f2, τ', f3⟩ := takeAs_sound hN h2 e1 hv.2
          refine ⟨ψ ++ ψ', by rw [← List.append_assoc]; exact f1, ⟨x, y, v, vs, rfl, rfl, ?_, by rw [← List.append_assoc]; exact f2⟩, τ ++ τ', by rw [f3, e3]; simp⟩
          rw [← List.append_assoc]
          exact e2.mono ψ'
      · cases h
    · cases h
  | [], _ :: _, _, _, _, _, _, h, _, _ => by simp [takeAs] at h
  | _ :: _, [], _, _, _, _, _, h, _, _ => by simp [takeAs] at h

theorem takeT_sound {N : Nat} (hN : φ.length = N) {s : TSh} {a : TV} {σ σ' : List Src} {φσ : Phi} {l : List At} {v : Value} (h : takeT bs N σ s a = some (σ', l)) (hσ : All2 (SrcOK φ) σ φσ) (hv : relT φ a v) :
    Taken φ σ σ' φσ fun φ1 => tRel bs φ1 s l v := by
  unfold takeT at h
  split at h
  · exact takeA_sound hN h hσ hv
  · rename_i b r c
    have hv' : relA φ (.s (.b c)) v := hv
    exact takeA_sound hN h hσ hv'
  · obtain ⟨vs, rfl, hvs⟩ := hv
    obtain ⟨ψ, e1, e2, e3⟩ := takeAs_sound hN h hσ hvs
    exact ⟨ψ, e1, ⟨vs, rfl, e2⟩, e3⟩
  · cases h; exact taken_same hσ rfl
  · cases h

theorem takeTs_sound {N : Nat} (hN : φ.length = N) : ∀ {ss : List TSh} {as : List TV} {σ σ' : List Src} {φσ : Phi} {l : List At} {vs : List Value}, takeTs bs N σ ss as = some (σ', l) → All2 (SrcOK φ) σ φσ → All2 (relT φ) as vs →
    Taken φ σ σ' φσ fun φ1 => tRels bs φ1 ss l vs
  | [], [], σ, σ', φσ, l, vs, h, hσ, hv => by
    cases h
    cases vs with
    | nil => exact taken_same hσ ⟨rfl, rfl⟩
    | cons _ _ => exact hv.elim
  | s :: ss, a :: as, σ, σ', φσ, l, vs, h, hσ, hv => by
    simp only [takeTs] at h
    split at h
    · rename_i σ1 x h1
      split at h
      · rename_i σ2 y h2
        cases h
        cases vs with
        | nil => exact hv.elim
        | cons v vs =>
          obtain ⟨ψ, e1, e2, τ, e3⟩ := takeT_sound hN h1 hσ hv.1
          obtain ⟨ψ', f1, f2, τ', f3⟩ := takeTs_sound hN h2 e1 hv.2
          refine ⟨ψ ++ ψ', by rw [← List.append_assoc]; exact f1, ⟨x, y, v, vs, rfl, rfl, ?_, by rw [← List.append_assoc]; exact f2⟩, τ ++ τ', by rw [f3, e3]; simp⟩
          rw [← List.append_assoc]
          exact e2.mono ψ'
      · cases h
    · cases h
  | [], _ :: _, _, _, _, _, _, h, _, _ => by simp [takeTs] at h
  | _ :: _, [], _, _, _, _, _, h, _, _ => by simp [takeTs] at h
end
end Go.AM
