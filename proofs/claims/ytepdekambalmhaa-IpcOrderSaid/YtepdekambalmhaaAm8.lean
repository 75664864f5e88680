/-
  The abstract machine, part 8: a region, in the order of the text, and in whatever order its edges allow.
-/
import Derived.Test.YtepdekambalmhaaAm7
namespace Go.AM

/-- What stands in the temporary of the operation that guards. -/
def guardT (ops : List Oper) (tm : List TV) (j : Nat) : Option (Nat × TV) :=
  match ops[j]? with
  | some o => match o.dst with
    | some d => (tm[d]?).map fun v => (d, v)
    | none => none
  | none => none

def putT (tm : List TV) (dst : Option Nat) (v : TV) : List TV :=
  match dst with
  | some d => tm.set d (unk v)
  | none => tm

/-- One operation behind its guard, whose test is what it is. -/
def semOp (P : Program) (Γ : Specs) (sy : Nat → Option Nat) (ops : List Oper) (tm : List TV) (H : AH) (o : Oper) : Option (TV × AH) :=
  match o.guard with
  | none => (step P Γ (sy (o.dst.getD 0)) (evalT tm) H o.op).val
  | some (j, want) => match guardT ops tm j with
    | some (_, .v (.s (.b c))) => if c = want then (step P Γ (sy (o.dst.getD 0)) (evalT tm) H o.op).val else some (.tup [], H)
    | some (_, .tup []) => some (.tup [], H)
    | _ => none

/-- What an operand is, a known truth value as one that is known. -/
def rawT (tm : List TV) : Operand → TV
  | .tmp t => tm.getD t (.tup [])
  | .const (.bool b) => .k b
  | _ => .any

/-- Operations that hand a known truth value on. -/
def quickT (tm : List TV) : Op → Option Bool
  | .move x => match rawT tm x with
    | .k b => some b
    | _ => none
  | .assign x => match rawT tm x with
    | .k b => some b
    | _ => none
  | .pick c a b => match rawT tm c with
    | .k true => match rawT tm a with
      | .k b => some b
      | _ => none
    | .k false => match rawT tm b with
      | .k b => some b
      | _ => none
    | _ => none
  | _ => none

def putK (tm : List TV) (dst : Option Nat) (b : Bool) : List TV :=
  match dst with
  | some d => tm.set d (.k b)
  | none => tm

def doOp (P : Program) (Γ : Specs) (sy : Nat → Option Nat) (tm : List TV) (H : AH) (o : Oper) (k : List TV → AH → Tr ASt) : Tr ASt :=
  match quickT tm o.op with
  | some b => k (putK tm o.dst b) H
  | none => (step P Γ (sy (o.dst.getD 0)) (evalT tm) H o.op).bind fun r => k (putT tm o.dst r.1) r.2

def runOps (P : Program) (Γ : Specs) (sy : Nat → Option Nat) (ops : List Oper) : List Oper → List TV → AH → Tr ASt
  | [], tm, H => .ok ⟨tm, H⟩
  | o :: rest, tm, H =>
    match o.guard with
    | none => doOp P Γ sy tm H o (runOps P Γ sy ops rest)
    | some (j, want) => match guardT ops tm j with
      | some (d, .v (.s (.b c))) => match sy d with
        | some g => .br g c
            (match want with
              | true => doOp P Γ sy (tm.set d (.k true)) H o (runOps P Γ sy ops rest)
              | false => runOps P Γ sy ops rest (putT (tm.set d (.k true)) o.dst (.tup [])) H)
            (match want with
              | true => runOps P Γ sy ops rest (putT (tm.set d (.k false)) o.dst (.tup [])) H
              | false => doOp P Γ sy (tm.set d (.k false)) H o (runOps P Γ sy ops rest))
        | none => match c, want with
          | true, true => doOp P Γ sy tm H o (runOps P Γ sy ops rest)
          | false, false => doOp P Γ sy tm H o (runOps P Γ sy ops rest)
          | _, _ => runOps P Γ sy ops rest (putT tm o.dst (.tup [])) H
      | some (_, .k c) => match c, want with
        | true, true => doOp P Γ sy tm H o (runOps P Γ sy ops rest)
        | false, false => doOp P Γ sy tm H o (runOps P Γ sy ops rest)
        | _, _ => runOps P Γ sy ops rest (putT tm o.dst (.tup [])) H
      | some (_, .tup []) => runOps P Γ sy ops rest (putT tm o.dst (.tup [])) H
      | _ => .no

/-- The operations one behind the other. -/
def chain (P : Program) (Γ : Specs) (sy : Nat → Option Nat) (ops : List Oper) : List Oper → List TV → AH → Option ASt
  | [], tm, H => some ⟨tm, H⟩
  | o :: rest, tm, H => match semOp P Γ sy ops tm H o with
    | some (v, H') => chain P Γ sy ops rest (putT tm o.dst v) H'
    | none => none

section
variable {P : Program} {Γ : Specs} {sy : Nat → Option Nat} {φ : Phi}

theorem unk_unk (v : TV) : unk (unk v) = unk v := by
  cases v <;> rfl

theorem unk_rel {v : TV} {u : Value} : relT φ (unk v) u ↔ relT φ v u := by
  cases v <;> exact Iff.rfl

theorem evalT_map (tm : List TV) : evalT (tm.map unk) = evalT tm := by
  funext x
  cases x with
  | tmp t =>
    simp only [evalT, List.getD_eq_getElem?_getD, List.getElem?_map]
    cases tm[t]? with
    | none => rfl
    | some v => simp [unk_unk]
  | _ => rfl

theorem putT_map (tm : List TV) (dst : Option Nat) (v : TV) : (putT tm dst v).map unk = putT (tm.map unk) dst v := by
  cases dst with
  | none => rfl
  | some d => simp [putT, List.map_set, unk_unk]

theorem set_map {tm : List TV} {d : Nat} {c : Bool} (h : tm[d]? = some (.v (.s (.b c)))) : (tm.set d (.k c)).map unk = tm.map unk := by
  apply List.ext_getElem?
  intro i
  simp only [List.getElem?_map, List.getElem?_set]
  by_cases e : d = i
  · subst e
    have hlt : d < tm.length := by
      rcases Nat.lt_or_ge d tm.length with h' | h'
      · exact h'
      · simp [List.getElem?_eq_none h'] at h
    rw [if_pos rfl, if_pos hlt, h]
    rfl
  · simp [e]

theorem guardT_get {ops : List Oper} {tm : List TV} {j d : Nat} {v : TV} (h : guardT ops tm j = some (d, v)) : tm[d]? = some v ∧ ∃ o, ops[j]? = some o ∧ o.dst = some d := by
  unfold guardT at h
  split at h
  · rename_i o ho
    split at h
    · rename_i d' hd
      obtain ⟨u, hu, he⟩ := Option.map_eq_some_iff.1 h
      cases he
      exact ⟨hu, o, ho, hd⟩
    · cases h
  · cases h

theorem guardT_map {ops : List Oper} {tm : List TV} {j d : Nat} {v : TV} (h : guardT ops tm j = some (d, v)) : guardT ops (tm.map unk) j = some (d, unk v) := by
  obtain ⟨h1, o, h2, h3⟩ := guardT_get h
  simp [guardT, h2, h3, h1]

theorem rawT_eval {tm : List TV} {x : Operand} {b : Bool} (h : rawT tm x = .k b) : evalT tm x = tvb b := by
  unfold rawT at h
  split at h
  · rename_i t
    simp only [evalT, h, unk]
    rfl
  · cases h; rfl
  · cases h

theorem pickT_left {b : Bool} {v : TV} : (pickT true (tvb b) v).val = some (tvb b) := by
  unfold pickT tvb
  split
  · rename_i p q h1; cases h1; rfl
  · rename_i k p k' q h1; cases h1
  · rfl

theorem pickT_right {b : Bool} {v : TV} : (pickT false v (tvb b)).val = some (tvb b) := by
  unfold pickT tvb
  split
  · rename_i p q h1; cases h1; rfl
  · rename_i k p k' q h1; cases h1
  · rfl

/-- What is handed on in short is what a step comes to. -/
theorem quickT_step {tm : List TV} {H : AH} {op : Op} {b : Bool} {y : Option Nat} (h : quickT tm op = some b) : (step P Γ y (evalT tm) H op).val = some (tvb b, H) := by
  unfold quickT at h
  split at h
  · rename_i x
    split at h
    · rename_i c hx
      cases h
      simp [step, cls, stepN, Tr.bind, Tr.val, rawT_eval hx]
    · cases h
  · rename_i x
    split at h
    · rename_i c hx
      cases h
      simp [step, cls, stepN, Tr.bind, Tr.val, rawT_eval hx]
    · cases h
  · rename_i c x z
    split at h
    · rename_i hc
      split at h
      · rename_i d hx
        cases h
        have h1 := rawT_eval hc
        have h2 := rawT_eval hx
        have e1 : tvb true = .v (.s (.b true)) := rfl
        have e2 : tvb false = .v (.s (.b false)) := rfl
        simp only [step, cls, stepN, Tr.val_bind, h1, e1]
        rw [h2]
        simp [pickT_left, Tr.val]
      · cases h
    · rename_i hc
      split at h
      · rename_i d hx
        cases h
        have h1 := rawT_eval hc
        have h2 := rawT_eval hx
        have e1 : tvb true = .v (.s (.b true)) := rfl
        have e2 : tvb false = .v (.s (.b false)) := rfl
        simp only [step, cls, stepN, Tr.val_bind, h1, e2]
        rw [h2]
        simp [pickT_right, Tr.val]
      · cases h
    · cases h
  · cases h

theorem putK_map (tm : List TV) (dst : Option Nat) (b : Bool) : (putK tm dst b).map unk = putT (tm.map unk) dst (tvb b) := by
  cases dst with
  | none => rfl
  | some d => simp [putK, putT, List.map_set, unk, tvb]

theorem runOps_chain {ops : List Oper} : ∀ {l : List Oper} {tm : List TV} {H : AH} {s : ASt}, (runOps P Γ sy ops l tm H).val = some s → chain P Γ sy ops l (tm.map unk) H = some ⟨s.tm.map unk, s.hp⟩
  | [], tm, H, s, h => by rw [runOps] at h; have := val_ok h; subst this; rfl
  | o :: rest, tm, H, s, h => by
    have doit : ∀ {tm1 : List TV}, tm1.map unk = tm.map unk → (doOp P Γ sy tm1 H o (runOps P Γ sy ops rest)).val = some s →
        ∃ v H', (step P Γ (sy (o.dst.getD 0)) (evalT (tm.map unk)) H o.op).val = some (v, H') ∧ chain P Γ sy ops rest (putT (tm.map unk) o.dst v) H' = some ⟨s.tm.map unk, s.hp⟩ := by
      intro tm1 ht h
      unfold doOp at h
      cases hq : quickT tm1 o.op with
      | some b =>
        simp only [hq] at h
        refine ⟨tvb b, H, by rw [← ht, evalT_map]; exact quickT_step hq, ?_⟩
        have := runOps_chain (l := rest) h
        rwa [putK_map, ht] at this
      | none =>
      simp only [hq] at h
      rw [Tr.val_bind] at h
      cases hs : (step P Γ (sy (o.dst.getD 0)) (evalT tm1) H o.op).val with
      | none => simp [hs] at h
      | some r =>
        refine ⟨r.1, r.2, by rw [← ht, evalT_map, hs], ?_⟩
        have := runOps_chain (l := rest) (by simpa [hs] using h)
        rwa [putT_map, ht] at this
    have skip : ∀ {tm1 : List TV}, tm1.map unk = tm.map unk → (runOps P Γ sy ops rest (putT tm1 o.dst (.tup [])) H).val = some s → chain P Γ sy ops rest (putT (tm.map unk) o.dst (.tup [])) H = some ⟨s.tm.map unk, s.hp⟩ := by
      intro tm1 ht h
      have := runOps_chain (l := rest) h
      rwa [putT_map, ht] at this
    rw [runOps] at h
    rw [chain]
    cases hg : o.guard with
    | none =>
      simp only [hg] at h
      obtain ⟨v, H', h1, h2⟩ := doit rfl h
      simp only [semOp, hg, h1]
      exact h2
    | some gw =>
      obtain ⟨j, want⟩ := gw
      simp only [hg] at h
      split at h
      · rename_i d c hgt
        have hgm := guardT_map hgt
        obtain ⟨hget, _⟩ := guardT_get hgt
        have hset : ∀ c', c = c' → (tm.set d (.k c')).map unk = tm.map unk := fun c' e => by subst e; exact set_map hget
        simp only [semOp, hg, hgm, unk]
        split at h
        · cases c
          · simp only [Tr.val] at h
            cases want
            · obtain ⟨v, H', h1, h2⟩ := doit (hset _ rfl) h
              simp only [if_true, h1]
              exact h2
            · simpa using skip (hset _ rfl) h
          · simp only [Tr.val] at h
            cases want
            · simpa using skip (hset _ rfl) h
            · obtain ⟨v, H', h1, h2⟩ := doit (hset _ rfl) h
              simp only [if_true, h1]
              exact h2
        · cases c <;> cases want <;> simp only at h
          · obtain ⟨v, H', h1, h2⟩ := doit rfl h
            simp only [if_true, h1]
            exact h2
          · simpa using skip rfl h
          · simpa using skip rfl h
          · obtain ⟨v, H', h1, h2⟩ := doit rfl h
            simp only [if_true, h1]
            exact h2
      · rename_i d c hgt
        have hgm := guardT_map hgt
        simp only [semOp, hg, hgm, unk]
        cases c <;> cases want <;> simp only at h
        · obtain ⟨v, H', h1, h2⟩ := doit rfl h
          simp only [if_true, h1]
          exact h2
        · simpa using skip rfl h
        · simpa using skip rfl h
        · obtain ⟨v, H', h1, h2⟩ := doit rfl h
          simp only [if_true, h1]
          exact h2
      · rename_i d hgt
        have hgm := guardT_map hgt
        simp only [semOp, hg, hgm, unk]
        exact skip rfl h
      · simp [Tr.val] at h

theorem map_unk_rel {tm : List TV} {vs : List Value} : All2 (relT φ) (tm.map unk) vs ↔ All2 (relT φ) tm vs := by
  induction tm generalizing vs with
  | nil => exact Iff.rfl
  | cons v tm ih =>
    cases vs with
    | nil => exact Iff.rfl
    | cons u vs => exact and_congr unk_rel ih

/-! ### one operation, in the machine -/

theorem evalT_rel {tm : List TV} {a : Act} (h : All2 (relT φ) tm a.tmps.toList) (x : Operand) : relT φ (evalT tm x) (a.eval x) := by
  cases x with
  | tmp t =>
    simp only [evalT, Act.eval]
    cases ht : tm[t]? with
    | some v =>
      obtain ⟨u, hu, hr⟩ := h.get ht
      have hu' : a.tmps[t]? = some u := by simpa using hu
      rw [List.getD_eq_getElem?_getD, ht]
      simp only [Array.getD_eq_getD_getElem?, hu', Option.getD_some]
      exact unk_rel.2 hr
    | none =>
      have hlen := h.length_eq
      have : tm.length ≤ t := List.getElem?_eq_none_iff.1 ht
      have hu' : a.tmps[t]? = none := by simp at hlen ⊢; omega
      rw [List.getD_eq_getElem?_getD, ht]
      simp only [Array.getD_eq_getD_getElem?, hu', Option.getD_none]
      exact ⟨#[], rfl, trivial⟩
  | const v =>
    simp only [evalT, Act.eval]
    split
    · rename_i a ha; exact absV_rel ha
    · trivial
  | global g => trivial
  | func f => exact ⟨[], rfl, trivial⟩

theorem put_rel {tm : List TV} {a : Act} {tv : TV} {v : Value} (h : All2 (relT φ) tm a.tmps.toList) (hv : relT φ tv v) (dst : Option Nat) : All2 (relT φ) (putT tm dst tv) (a.put dst v).tmps.toList := by
  cases dst with
  | none => exact h
  | some d => simpa [putT, Act.put] using h.set d (unk_rel.2 hv)

theorem tm_mono {tm : List TV} {vs : List Value} (ψ : Phi) (h : All2 (relT φ) tm vs) : All2 (relT (φ ++ ψ)) tm vs := h.mono fun _ _ h => relT.mono ψ h

/-- One operation that comes up now. -/
theorem wpOp_sound (hΓ : SpecOK P Γ) {ops : Array Oper} {Q : Exit → Act → World → Prop} {i : Nat} {o : Oper} {K : Act → World → Prop} {a : Act} {w : World} {tm : List TV} {H H' : AH} {tv : TV}
    (ho : ops[i]? = some o) (hs : semOp P Γ sy ops.toList tm H o = some (tv, H')) (hrep : Rep φ H w.heap) (htm : All2 (relT φ) tm a.tmps.toList)
    (hK : ∀ φ' w' v, relT φ' tv v → Rep φ' H' w'.heap → Ext φ H w φ' H' w' → K (a.put o.dst v) w') : wpOp P ops Q i K a w := by
  unfold wpOp
  simp only [ho]
  have run : (step P Γ (sy (o.dst.getD 0)) (evalT tm) H o.op).val = some (tv, H') → o.wp P a w K Q := by
    intro h
    have hd := step_sound hΓ (evalT_rel htm) (fun f => rfl) h hrep
    unfold Oper.wp
    rcases hd with ⟨v, w', φ', hr | ⟨hr, rfl⟩, h1, h2, h3⟩ | ⟨f, args, hr, hc⟩
    · rw [hr]; exact hK φ' w' v h1 h2 h3
    · rw [hr]; exact hK φ' w' undef h1 h2 h3
    · rw [hr]
      simp only [Oper.upon]
      refine hc.mono fun e w' ⟨v, φ', he, h1, h2, h3⟩ => ?_
      subst he
      exact hK φ' w' v h1 h2 h3
  have skip : tv = .tup [] → H' = H → K (a.put o.dst undef) w := by
    rintro rfl rfl
    exact hK φ w undef ⟨#[], rfl, trivial⟩ hrep (Ext.refl _ _ _)
  unfold semOp at hs
  split at hs
  · rename_i hg
    simp only [Region.wanted, hg, if_true]
    exact .inl (run hs)
  · rename_i j want hg
    simp only [Region.wanted, hg]
    split at hs
    · rename_i d c hgt
      obtain ⟨hget, oj, hoj, hdj⟩ := guardT_get hgt
      obtain ⟨u, hu, hr⟩ := htm.get hget
      simp only [relT, relA, relS] at hr
      subst hr
      have hy : yielded ops a.tmps j = some c := by
        have h1 : ops[j]? = some oj := by simpa using hoj
        have h2 : a.tmps[d]? = some (.bool c) := by simpa using hu
        simp [yielded, h1, hdj, h2]
      rw [hy]
      split at hs
      · rename_i hc
        subst hc
        simp only [beq_self_eq_true, if_true]
        exact .inl (run hs)
      · rename_i hc
        have hne : (some c == some want) = false := by simpa using hc
        simp only [hne, Bool.false_eq_true, if_false]
        simp only [Option.some.injEq, Prod.mk.injEq] at hs
        exact skip hs.1.symm hs.2.symm
    · rename_i d hgt
      obtain ⟨hget, oj, hoj, hdj⟩ := guardT_get hgt
      obtain ⟨u, hu, hr⟩ := htm.get hget
      obtain ⟨vs, rfl, hvs⟩ := hr
      have hy : yielded ops a.tmps j = none := by
        have h1 : ops[j]? = some oj := by simpa using hoj
        have h2 : a.tmps[d]? = some (.tuple vs) := by simpa using hu
        simp [yielded, h1, hdj, h2]
      rw [hy]
      have hne : ((none : Option Bool) == some want) = false := rfl
      simp only [hne, Bool.false_eq_true, if_false]
      simp only [Option.some.injEq, Prod.mk.injEq] at hs
      exact skip hs.1.symm hs.2.symm
    · cases hs

/-- A region whose order is the text's. -/
theorem wpOps_chain (hΓ : SpecOK P Γ) {ops : Array Oper} {Q : Exit → Act → World → Prop} : ∀ (l : List Oper) (k : Nat) (a : Act) (w : World) (φ : Phi) (tm : List TV) (H : AH) (s : ASt),
    (∀ (j : Nat), l[j]? = ops[k + j]?) → chain P Γ sy ops.toList l tm H = some s → Rep φ H w.heap → All2 (relT φ) tm a.tmps.toList → a.defers = [] →
    (∀ φ' w' a', Rep φ' s.hp w'.heap → All2 (relT φ') s.tm a'.tmps.toList → a'.defers = [] → Ext φ H w φ' s.hp w' → Q .normal a' w') →
    wpOps P ops Q (List.range' k l.length) a w
  | [], k, a, w, φ, tm, H, s, _, hc, hrep, htm, hd, hQ => by
    simp only [chain, Option.some.injEq] at hc
    subst hc
    exact hQ φ w a hrep htm hd (Ext.refl _ _ _)
  | o :: rest, k, a, w, φ, tm, H, s, hl, hc, hrep, htm, hd, hQ => by
    rw [chain] at hc
    split at hc
    · rename_i v H' hs
      have ho : ops[k]? = some o := by simpa using (hl 0).symm
      simp only [List.length_cons, List.range'_succ]
      rw [wpOps_cons]
      refine wpOp_sound hΓ ho hs hrep htm fun φ' w' u h1 h2 h3 => ?_
      refine wpOps_chain hΓ rest (k + 1) _ w' φ' _ H' s (fun j => by have := hl (j + 1); simpa [Nat.add_assoc, Nat.add_comm 1 j] using this) hc h2 ?_ ?_ ?_
      · obtain ⟨ψ, rfl⟩ := h3.pre
        exact put_rel (tm_mono ψ htm) h1 o.dst
      · cases o.dst <;> exact hd
      · intro φ2 w2 a2 g1 g2 g3 g4
        exact hQ φ2 w2 a2 g1 g2 g3 (h3.trans g4)
    · cases hc
end
end Go.AM
