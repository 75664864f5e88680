/-
  The abstract machine, part 11b: the ways of a region that turns no memory, laid together.
-/
import Derived.Test.YtepdekambalmhaaAmB
namespace Go.AM

/-- Of two values the one of the way that is gone. -/
def mrgT (c : Bool) (x y : TV) : TV :=
  match unk x, unk y with
  | .v (.s (.b p)), .v (.s (.b q)) => tvb (cond c p q)
  | .v (.s (.n k p)), .v (.s (.n k' q)) => if k = k' then tvn k (cond c p q) else .any
  | .v (.s (.p id o)), .v (.s (.p id' o')) => if id = id' ∧ o = o' then .v (.s (.p id o)) else .any
  | _, _ => .any

def mrgTs (c : Bool) : List TV → List TV → List TV
  | x :: xs, y :: ys => mrgT c x y :: mrgTs c xs ys
  | _, _ => []

def pickTs (tm : List TV) : List Nat → List TV
  | [] => []
  | d :: ds => unk (tm.getD d (.tup [])) :: pickTs tm ds

/-- What stands in some temporaries, whichever way was gone; none: one leads outside. -/
def joinTs (ds : List Nat) : Tr ASt → Option (List TV)
  | .ok s => some (pickTs s.tm ds)
  | .br _ c t e => match joinTs ds t, joinTs ds e with
    | some xs, some ys => some (mrgTs c xs ys)
    | _, _ => none
  | .no => none

def setTs : List Nat → List TV → List TV → List TV
  | d :: ds, v :: vs, tm => setTs ds vs (tm.set d v)
  | _, _, tm => tm

def dstsOf : List Oper → List Nat
  | [] => []
  | o :: os => match o.dst with
    | some d => d :: dstsOf os
    | none => dstsOf os

def stillOp (P : Program) (Γ : Specs) (o : Oper) : Bool :=
  match cls P Γ o.op with
  | .N => true
  | .R => true
  | .E => false

def allStill (P : Program) (Γ : Specs) : List Oper → Bool
  | [] => true
  | o :: os => match stillOp P Γ o with
    | true => allStill P Γ os
    | false => false

def joinR (P : Program) (Γ : Specs) (ops : List Oper) (tm : List TV) (H : AH) (T : Tr ASt) : Tr ASt :=
  match allStill P Γ ops with
  | true => match joinTs (dstsOf ops) T with
    | some vs => .ok ⟨setTs (dstsOf ops) vs tm, H⟩
    | none => .no
  | false => .no

section
variable {P : Program} {Γ : Specs} {sy : Nat → Option Nat} {φ : Phi}

theorem unk_rel' {v : TV} {u : Value} (h : relT φ v u) : relT φ (unk v) u := unk_rel.2 h

theorem mrgT_left {x y : TV} {u : Value} (h : relT φ x u) : relT φ (mrgT true x y) u := by
  have h := unk_rel' h
  unfold mrgT
  split
  · rename_i p q h1 h2; rw [h1] at h; exact h
  · rename_i k p k' q h1 h2
    split
    · rw [h1] at h; exact h
    · trivial
  · rename_i id o id' o' h1 h2
    split
    · rw [h1] at h; exact h
    · trivial
  · trivial

theorem mrgT_right {x y : TV} {u : Value} (h : relT φ y u) : relT φ (mrgT false x y) u := by
  have h := unk_rel' h
  unfold mrgT
  split
  · rename_i p q h1 h2; rw [h2] at h; exact h
  · rename_i k p k' q h1 h2
    split
    · rename_i hk; subst hk; rw [h2] at h; exact h
    · trivial
  · rename_i id o id' o' h1 h2
    split
    · rename_i hk; obtain ⟨rfl, rfl⟩ := hk; rw [h2] at h; exact h
    · trivial
  · trivial

/-- What each of the values that were laid together stands for. -/
def GoodTs (φ : Phi) (tm : List TV) : List Nat → List TV → Prop
  | [], [] => True
  | d :: ds, v :: vs => (∀ u, relT φ (tm.getD d (.tup [])) u → relT φ v u) ∧ GoodTs φ tm ds vs
  | _, _ => False

theorem pickTs_good (tm : List TV) : ∀ ds, GoodTs φ tm ds (pickTs tm ds)
  | [] => trivial
  | _ :: ds => ⟨fun _ h => unk_rel' h, pickTs_good tm ds⟩

theorem good_len {tm : List TV} : ∀ {ds vs}, GoodTs φ tm ds vs → ds.length = vs.length
  | [], [], _ => rfl
  | _ :: _, _ :: _, h => by simp [good_len h.2]
  | [], _ :: _, h => h.elim
  | _ :: _, [], h => h.elim

theorem mrgTs_left {tm : List TV} : ∀ {ds xs ys}, GoodTs φ tm ds xs → xs.length = ys.length → GoodTs φ tm ds (mrgTs true xs ys)
  | [], [], [], _, _ => trivial
  | _ :: _, _ :: _, _ :: _, h, e => ⟨fun u hu => mrgT_left (h.1 u hu), mrgTs_left h.2 (by simpa using e)⟩
  | [], _ :: _, _, h, _ => h.elim
  | _ :: _, [], _, h, _ => h.elim
  | _, [], _ :: _, _, e => by simp at e
  | _, _ :: _, [], _, e => by simp at e

theorem mrgTs_right {tm : List TV} : ∀ {ds xs ys}, GoodTs φ tm ds ys → xs.length = ys.length → GoodTs φ tm ds (mrgTs false xs ys)
  | [], [], [], _, _ => trivial
  | _ :: _, _ :: _, _ :: _, h, e => ⟨fun u hu => mrgT_right (h.1 u hu), mrgTs_right h.2 (by simpa using e)⟩
  | [], _, _ :: _, h, _ => h.elim
  | _ :: _, _, [], h, _ => h.elim
  | _, [], _ :: _, _, e => by simp at e
  | _, _ :: _, [], _, e => by simp at e

theorem joinTs_len {ds : List Nat} : ∀ {T : Tr ASt} {vs : List TV}, joinTs ds T = some vs → vs.length = ds.length
  | .ok s, vs, h => by
    simp only [joinTs, Option.some.injEq] at h
    subst h
    exact (good_len (φ := []) (pickTs_good s.tm ds)).symm
  | .br g c t e, vs, h => by
    simp only [joinTs] at h
    split at h
    · rename_i xs ys h1 h2
      have l1 := joinTs_len h1
      have l2 := joinTs_len h2
      simp only [Option.some.injEq] at h
      subst h
      clear h1 h2
      revert l1 l2
      induction xs generalizing ys ds with
      | nil => intro l1 l2; simp at l1; simp [mrgTs, ← l1]
      | cons x xs ih =>
        intro l1 l2
        cases ys with
        | nil => simp at l1 l2; omega
        | cons y ys =>
          cases ds with
          | nil => simp at l1
          | cons d ds => simp only [mrgTs, List.length_cons]; rw [ih (ds := ds) ys (by simpa using l1) (by simpa using l2)]
    · cases h
  | .no, vs, h => by simp [joinTs] at h

theorem joinTs_good {ds : List Nat} : ∀ {T : Tr ASt} {vs : List TV}, joinTs ds T = some vs → ∃ s, T.val = some s ∧ ∀ φ, GoodTs φ s.tm ds vs
  | .ok s, vs, h => by
    simp only [joinTs, Option.some.injEq] at h
    subst h
    exact ⟨s, rfl, fun φ => pickTs_good s.tm ds⟩
  | .br g c t e, vs, h => by
    simp only [joinTs] at h
    split at h
    · rename_i xs ys h1 h2
      have l1 := joinTs_len h1
      have l2 := joinTs_len h2
      simp only [Option.some.injEq] at h
      subst h
      cases c with
      | true =>
        obtain ⟨s, e1, e2⟩ := joinTs_good h1
        exact ⟨s, e1, fun φ => mrgTs_left (e2 φ) (by omega)⟩
      | false =>
        obtain ⟨s, e1, e2⟩ := joinTs_good h2
        exact ⟨s, e1, fun φ => mrgTs_right (e2 φ) (by omega)⟩
    · cases h
  | .no, vs, h => by simp [joinTs] at h

theorem setTs_rel {stm : List TV} {us : List Value} (hs : All2 (relT φ) stm us) : ∀ {ds : List Nat} {vs tm : List TV}, GoodTs φ stm ds vs → tm.length = stm.length → (∀ i x, tm[i]? = some x → i ∈ ds ∨ ∃ u, us[i]? = some u ∧ relT φ x u) → All2 (relT φ) (setTs ds vs tm) us
  | [], [], tm, _, hl, h => All2.of_get (show tm.length = us.length by rw [hl, hs.length_eq]) fun i a b ha hb => by
    rcases h i a ha with h | ⟨u, h1, h2⟩
    · simp at h
    · rw [hb] at h1; cases h1; exact h2
  | d :: ds, v :: vs, tm, hg, hl, h => by
    simp only [setTs]
    refine setTs_rel hs hg.2 (by simpa using hl) fun i x hx => ?_
    rw [List.getElem?_set] at hx
    split at hx
    · rename_i e
      subst e
      split at hx
      · rename_i hlt
        cases hx
        rw [hl] at hlt
        obtain ⟨u, hu, hr⟩ := hs.get (List.getElem?_eq_getElem hlt)
        refine .inr ⟨u, hu, hg.1 u ?_⟩
        rw [List.getD_eq_getElem?_getD, List.getElem?_eq_getElem hlt]
        exact hr
      · cases hx
    · rename_i hne
      rcases h i x hx with hm | hm
      · rcases List.mem_cons.1 hm with e | e
        · exact (hne e.symm).elim
        · exact .inl e
      · exact .inr hm
  | [], _ :: _, _, h, _, _ => h.elim
  | _ :: _, [], _, h, _, _ => h.elim

/-! ### what a region leaves as it was -/

def Frame1 (ds : List Nat) (tm : List TV) (H : AH) (s : ASt) : Prop := s.hp = H ∧ s.tm.length = tm.length ∧ ∀ i, i ∉ ds → s.tm[i]? = tm[i]?

theorem step_still {o : Oper} {tm : List TV} {H : AH} {r : TV × AH} {y : Option Nat} (h : stillOp P Γ o = true) (hr : (step P Γ y (evalT tm) H o.op).val = some r) : r.2 = H := by
  unfold stillOp at h
  unfold step at hr
  split at hr
  · rw [Tr.val_bind] at hr
    obtain ⟨v, _, h2⟩ := Option.bind_eq_some_iff.1 hr
    have := val_ok h2
    subst this
    rfl
  · rw [Tr.val_bind] at hr
    obtain ⟨v, _, h2⟩ := Option.bind_eq_some_iff.1 hr
    have := val_ok h2
    subst this
    rfl
  · rename_i hc
    rw [hc] at h
    cases h

theorem dsts_mem {o : Oper} {d : Nat} : ∀ {l : List Oper}, o ∈ l → o.dst = some d → d ∈ dstsOf l
  | x :: xs, h, hd => by
    rcases List.mem_cons.1 h with rfl | h
    · simp [dstsOf, hd]
    · have := dsts_mem h hd
      unfold dstsOf
      split
      · exact List.mem_cons_of_mem _ this
      · exact this

theorem still_mem {o : Oper} : ∀ {l : List Oper}, allStill P Γ l = true → o ∈ l → stillOp P Γ o = true
  | x :: xs, h, ho => by
    simp only [allStill] at h
    split at h
    · rename_i hx
      rcases List.mem_cons.1 ho with rfl | ho
      · exact hx
      · exact still_mem h ho
    · cases h

theorem frame1_set {ds : List Nat} {tm : List TV} {H : AH} {s : ASt} {d : Nat} {v : TV} (hd : d ∈ ds) (h : Frame1 ds (tm.set d v) H s) : Frame1 ds tm H s := by
  obtain ⟨h1, h2, h3⟩ := h
  refine ⟨h1, by simpa using h2, fun i hi => ?_⟩
  rw [h3 i hi, List.getElem?_set_ne]
  rintro rfl
  exact hi hd

theorem frame1_put {ds : List Nat} {tm : List TV} {H : AH} {s : ASt} {o : Option Nat} {v : TV} (hd : ∀ d, o = some d → d ∈ ds) (h : Frame1 ds (putT tm o v) H s) : Frame1 ds tm H s := by
  cases o with
  | none => exact h
  | some d => exact frame1_set (hd d rfl) h

theorem runOps_frame {ops : List Oper} (hst : allStill P Γ ops = true) : ∀ {l : List Oper} {tm : List TV} {H : AH} {s : ASt}, (∀ o ∈ l, o ∈ ops) → (runOps P Γ sy ops l tm H).val = some s → Frame1 (dstsOf ops) tm H s
  | [], tm, H, s, _, h => by
    rw [runOps] at h
    have := val_ok h
    subst this
    exact ⟨rfl, rfl, fun _ _ => rfl⟩
  | o :: rest, tm, H, s, hl, h => by
    have ho := hl o (by simp)
    have hl' : ∀ o ∈ rest, o ∈ ops := fun x hx => hl x (by simp [hx])
    have hdst : ∀ d, o.dst = some d → d ∈ dstsOf ops := fun d hd => dsts_mem ho hd
    have doit : ∀ {tm1 : List TV}, (doOp P Γ sy tm1 H o (runOps P Γ sy ops rest)).val = some s → Frame1 (dstsOf ops) tm1 H s := by
      intro tm1 h
      unfold doOp at h
      split at h
      · rename_i b _
        have := runOps_frame hst hl' h
        unfold putK at this
        split at this
        · rename_i d hd; exact frame1_set (hdst d hd) this
        · exact this
      · rw [Tr.val_bind] at h
        obtain ⟨r, h1, h2⟩ := Option.bind_eq_some_iff.1 h
        have e := step_still (still_mem hst ho) h1
        have := runOps_frame hst hl' h2
        rw [e] at this
        exact frame1_put hdst this
    have skip : ∀ {tm1 : List TV}, (runOps P Γ sy ops rest (putT tm1 o.dst (.tup [])) H).val = some s → Frame1 (dstsOf ops) tm1 H s := fun h => frame1_put hdst (runOps_frame hst hl' h)
    rw [runOps] at h
    split at h
    · exact doit h
    · rename_i j want _
      split at h
      · rename_i d c hg
        obtain ⟨_, oj, hj, hd⟩ := guardT_get hg
        have hdm : d ∈ dstsOf ops := dsts_mem (List.mem_of_getElem? hj) hd
        split at h
        · cases c
          · simp only [Tr.val] at h
            cases want
            · exact frame1_set hdm (doit h)
            · exact frame1_set hdm (skip h)
          · simp only [Tr.val] at h
            cases want
            · exact frame1_set hdm (skip h)
            · exact frame1_set hdm (doit h)
        · cases c <;> cases want <;> simp only at h
          · exact doit h
          · exact skip h
          · exact skip h
          · exact doit h
      · rename_i d c hg
        cases c <;> cases want <;> simp only at h
        · exact doit h
        · exact skip h
        · exact skip h
        · exact doit h
      · exact skip h
      · simp [Tr.val] at h

theorem joinR_sound {ops : List Oper} {tm : List TV} {H : AH} {s' : ASt} (h : (joinR P Γ ops tm H (runOps P Γ sy ops ops tm H)).val = some s') : ∃ s, (runOps P Γ sy ops ops tm H).val = some s ∧ s.hp = H ∧ s'.hp = H ∧ ∀ φ us, All2 (relT φ) s.tm us → All2 (relT φ) s'.tm us := by
  unfold joinR at h
  split at h
  · rename_i hst
    split at h
    · rename_i vs hvs
      have := val_ok h
      subst this
      obtain ⟨s, h1, h2⟩ := joinTs_good hvs
      obtain ⟨f1, f2, f3⟩ := runOps_frame hst (fun _ h => h) h1
      refine ⟨s, h1, f1, rfl, fun φ us hr => ?_⟩
      refine setTs_rel hr (h2 φ) f2.symm fun i x hx => ?_
      by_cases hi : i ∈ dstsOf ops
      · exact .inl hi
      · rw [← f3 i hi] at hx
        exact .inr (hr.get hx)
    · simp [Tr.val] at h
  · simp [Tr.val] at h
end
end Go.AM
