/-
  The abstract machine, part 10: a region that asks the tape for its order, the theorem.
-/
import Derived.Test.YtepdekambalmhaaAm9
namespace Go.AM

/-- The last of the first 'k' operations that 'p' lets in and that writes slot 't'. -/
def lastW (ops : List Oper) (p : Nat → Bool) (t : Nat) : Nat → Option Nat
  | 0 => none
  | k + 1 => if p k = true ∧ (ops[k]?).bind (·.dst) = some t then some k else lastW ops p t k

/-- The last of the first 'k' operations that 'p' lets in and that may turn the memory. -/
def lastE (P : Program) (Γ : Specs) (ops : List Oper) (p : Nat → Bool) : Nat → Option Nat
  | 0 => none
  | k + 1 => if p k = true ∧ (ops[k]?).map (fun o => cls P Γ o.op) = some Cl.E then some k else lastE P Γ ops p k

section
variable {P : Program} {Γ : Specs} {sy : Nat → Option Nat} {ops : List Oper}

theorem lastW_congr {p q : Nat → Bool} {t : Nat} : ∀ {k : Nat}, (∀ j, j < k → (ops[j]?).bind (·.dst) = some t → p j = q j) → lastW ops p t k = lastW ops q t k
  | 0, _ => rfl
  | k + 1, h => by
    simp only [lastW]
    rw [lastW_congr (k := k) fun j hj => h j (by omega)]
    by_cases hd : (ops[k]?).bind (·.dst) = some t
    · rw [h k (by omega) hd]
    · simp [hd]

theorem lastW_skip {p : Nat → Bool} {t i : Nat} : ∀ {k : Nat}, i ≤ k → (∀ j, i ≤ j → j < k → (ops[j]?).bind (·.dst) = some t → p j = false) → lastW ops p t k = lastW ops p t i
  | 0, hi, _ => by have : i = 0 := by omega
                   subst this; rfl
  | k + 1, hi, h => by
    rcases Nat.eq_or_lt_of_le hi with rfl | hlt
    · rfl
    · simp only [lastW]
      rw [if_neg]
      · exact lastW_skip (by omega) fun j h1 h2 => h j h1 (by omega)
      · rintro ⟨h1, h2⟩
        rw [h k (by omega) (by omega) h2] at h1
        cases h1

theorem lastE_congr {p q : Nat → Bool} : ∀ {k : Nat}, (∀ j, j < k → (ops[j]?).map (fun o => cls P Γ o.op) = some Cl.E → p j = q j) → lastE P Γ ops p k = lastE P Γ ops q k
  | 0, _ => rfl
  | k + 1, h => by
    simp only [lastE]
    rw [lastE_congr (k := k) fun j hj => h j (by omega)]
    by_cases hd : (ops[k]?).map (fun o => cls P Γ o.op) = some Cl.E
    · rw [h k (by omega) hd]
    · simp [hd]

theorem lastE_skip {p : Nat → Bool} {i : Nat} : ∀ {k : Nat}, i ≤ k → (∀ j, i ≤ j → j < k → (ops[j]?).map (fun o => cls P Γ o.op) = some Cl.E → p j = false) → lastE P Γ ops p k = lastE P Γ ops p i
  | 0, hi, _ => by have : i = 0 := by omega
                   subst this; rfl
  | k + 1, hi, h => by
    rcases Nat.eq_or_lt_of_le hi with rfl | hlt
    · rfl
    · simp only [lastE]
      rw [if_neg]
      · exact lastE_skip (by omega) fun j h1 h2 => h j h1 (by omega)
      · rintro ⟨h1, h2⟩
        rw [h k (by omega) (by omega) h2] at h1
        cases h1

/-- The states in the order of the text. -/
structure Run (P : Program) (Γ : Specs) (sy : Nat → Option Nat) (ops : List Oper) (T : Nat → List TV) (Hs : Nat → AH) (vs : Nat → TV) : Prop where
  step : ∀ (k : Nat) (o : Oper), ops[k]? = some o → semOp P Γ sy ops (T k) (Hs k) o = some (vs k, Hs (k + 1)) ∧ T (k + 1) = putT (T k) o.dst (vs k)

theorem run_of_chain {all : List Oper} : ∀ {l : List Oper} {tm : List TV} {H : AH} {s : ASt}, chain P Γ sy all l tm H = some s →
    ∃ (T : Nat → List TV) (Hs : Nat → AH) (vs : Nat → TV), T 0 = tm ∧ Hs 0 = H ∧ T l.length = s.tm ∧ Hs l.length = s.hp ∧
      ∀ (k : Nat) (o : Oper), l[k]? = some o → semOp P Γ sy all (T k) (Hs k) o = some (vs k, Hs (k + 1)) ∧ T (k + 1) = putT (T k) o.dst (vs k)
  | [], tm, H, s, h => by
    simp only [chain, Option.some.injEq] at h
    subst h
    exact ⟨fun _ => tm, fun _ => H, fun _ => .any, rfl, rfl, rfl, rfl, fun k o h => by simp at h⟩
  | o :: l, tm, H, s, h => by
    rw [chain] at h
    split at h
    · rename_i v H' hs
      obtain ⟨T, Hs, vs, h1, h2, h3, h4, h5⟩ := run_of_chain h
      refine ⟨fun | 0 => tm | k + 1 => T k, fun | 0 => H | k + 1 => Hs k, fun | 0 => v | k + 1 => vs k, rfl, rfl, h3, h4, ?_⟩
      intro k o' hk
      cases k with
      | zero =>
        simp at hk
        subst hk
        exact ⟨by simpa [h2] using hs, h1⟩
      | succ k =>
        simp at hk
        exact h5 k o' hk
    · cases h

/-- What stands in slot 't' when the operations that 'p' lets in, of the first 'k', have come up. -/
def valAt (ops : List Oper) (vs : Nat → TV) (tm0 : List TV) (p : Nat → Bool) (k t : Nat) : Option TV :=
  match lastW ops p t k with
  | none => tm0[t]?
  | some j => if t < tm0.length then some (unk (vs j)) else none

/-- The memory then. -/
def heapAt (P : Program) (Γ : Specs) (ops : List Oper) (Hs : Nat → AH) (p : Nat → Bool) (k : Nat) : AH :=
  match lastE P Γ ops p k with
  | none => Hs 0
  | some j => Hs (j + 1)

theorem putT_get {tm : List TV} {dst : Option Nat} {v : TV} {t : Nat} : (putT tm dst v)[t]? = if dst = some t then (if t < tm.length then some (unk v) else none) else tm[t]? := by
  cases dst with
  | none => simp [putT]
  | some d =>
    simp only [putT, List.getElem?_set, Option.some.injEq]
    by_cases e : d = t
    · subst e; simp
    · simp [e]

theorem putT_length {tm : List TV} {dst : Option Nat} {v : TV} : (putT tm dst v).length = tm.length := by
  cases dst <;> simp [putT]

variable {T : Nat → List TV} {Hs : Nat → AH} {vs : Nat → TV}

theorem Run.length (hr : Run P Γ sy ops T Hs vs) : ∀ k, k ≤ ops.length → (T k).length = (T 0).length
  | 0, _ => rfl
  | k + 1, hk => by
    obtain ⟨o, ho⟩ : ∃ o, ops[k]? = some o := ⟨ops[k]'(by omega), List.getElem?_eq_getElem (by omega)⟩
    rw [(hr.step k o ho).2, putT_length, hr.length k (by omega)]

theorem Run.val (hr : Run P Γ sy ops T Hs vs) : ∀ k, k ≤ ops.length → ∀ t, (T k)[t]? = valAt ops vs (T 0) (fun _ => true) k t
  | 0, _, t => rfl
  | k + 1, hk, t => by
    obtain ⟨o, ho⟩ : ∃ o, ops[k]? = some o := ⟨ops[k]'(by omega), List.getElem?_eq_getElem (by omega)⟩
    rw [(hr.step k o ho).2, putT_get]
    unfold valAt
    simp only [lastW, ho, Option.bind_some]
    by_cases hd : o.dst = some t
    · simp [hd, hr.length k (by omega)]
    · simp only [hd, if_false, and_false]
      exact hr.val k (by omega) t

theorem semOp_keeps {tm : List TV} {H H' : AH} {o : Oper} {v : TV} (h : semOp P Γ sy ops tm H o = some (v, H')) (hc : cls P Γ o.op ≠ .E) : H' = H := by
  have key : (step P Γ (sy (o.dst.getD 0)) (evalT tm) H o.op).val = some (v, H') → H' = H := by
    intro h
    unfold step at h
    split at h
    · rw [Tr.val_bind] at h
      cases hs : (stepN P Γ (sy (o.dst.getD 0)) (evalT tm) o.op).val with
      | none => simp [hs] at h
      | some u => simp only [hs, Option.bind_some] at h; have := val_ok h; simp only [Prod.mk.injEq] at this; exact this.2.symm
    · rw [Tr.val_bind] at h
      cases hs : (stepR P Γ (sy (o.dst.getD 0)) (evalT tm) H o.op).val with
      | none => simp [hs] at h
      | some u => simp only [hs, Option.bind_some] at h; have := val_ok h; simp only [Prod.mk.injEq] at this; exact this.2.symm
    · rename_i he; exact (hc he).elim
  unfold semOp at h
  split at h
  · exact key h
  · split at h
    · split at h
      · exact key h
      · simp only [Option.some.injEq, Prod.mk.injEq] at h; exact h.2.symm
    · simp only [Option.some.injEq, Prod.mk.injEq] at h; exact h.2.symm
    · cases h

theorem Run.heap (hr : Run P Γ sy ops T Hs vs) : ∀ k, k ≤ ops.length → Hs k = heapAt P Γ ops Hs (fun _ => true) k
  | 0, _ => rfl
  | k + 1, hk => by
    obtain ⟨o, ho⟩ : ∃ o, ops[k]? = some o := ⟨ops[k]'(by omega), List.getElem?_eq_getElem (by omega)⟩
    unfold heapAt
    simp only [lastE, ho, Option.map_some, true_and]
    by_cases hc : cls P Γ o.op = .E
    · simp [hc]
    · simp only [Option.some.injEq, hc, if_false]
      rw [semOp_keeps (hr.step k o ho).1 hc]
      exact hr.heap k (by omega)

theorem semOp_alloc {tm : List TV} {H H' : AH} {o : Oper} {v : TV} (h : semOp P Γ sy ops tm H o = some (v, H')) (ha : isAlloc o.op = true) : ∃ Bs, H' = H ++ Bs := by
  have key : (step P Γ (sy (o.dst.getD 0)) (evalT tm) H o.op).val = some (v, H') → ∃ Bs, H' = H ++ Bs := by
    intro h
    cases hop : o.op <;> rw [hop] at ha <;> simp only [isAlloc] at ha <;> first | cases ha | skip
    rw [hop] at h
    simp only [step, cls, stepE] at h
    split at h
    · rename_i l _
      have := val_ok h
      simp only [allocA, Prod.mk.injEq] at this
      exact ⟨_, this.2.symm⟩
    · simp [Tr.val] at h
  unfold semOp at h
  split at h
  · exact key h
  · split at h
    · split at h
      · exact key h
      · simp only [Option.some.injEq, Prod.mk.injEq] at h; exact ⟨[], by simp [h.2]⟩
    · simp only [Option.some.injEq, Prod.mk.injEq] at h; exact ⟨[], by simp [h.2]⟩
    · cases h

/-- The same operation over temporaries that are the same where it looks, and over the same memory where it looks at that. -/
theorem semOp_congr {tm tm' : List TV} {H H0 H1 : AH} {o : Oper} {v : TV} (h : semOp P Γ sy ops tm H0 o = some (v, H1)) (ht : ∀ t ∈ looks ops o, tm[t]? = tm'[t]?) (hM : ∀ f, MonoS (Γ f)) (hHE : cls P Γ o.op = .E → H = H0) (hHR : cls P Γ o.op = .R → ∃ Bs, H = H0 ++ Bs) :
    ∃ H', semOp P Γ sy ops tm' H o = some (v, H') ∧ (cls P Γ o.op = .E → H' = H1) ∧ (cls P Γ o.op ≠ .E → H' = H) := by
  have hρ : ∀ x ∈ o.op.operands.toList, evalT tm x = evalT tm' x := by
    intro x hx
    cases x with
    | tmp t =>
      have : t ∈ looks ops o := by
        unfold looks
        refine List.mem_append_left _ (List.mem_filterMap.2 ⟨.tmp t, hx, rfl⟩)
      simp only [evalT, List.getD_eq_getElem?_getD, ht t this]
    | const v => rfl
    | global g => rfl
    | func f => rfl
  have keep : ∀ {H' : AH}, semOp P Γ sy ops tm' H o = some (v, H') → cls P Γ o.op ≠ .E → H' = H := fun h hc => semOp_keeps h hc
  have key : (step P Γ (sy (o.dst.getD 0)) (evalT tm) H0 o.op).val = some (v, H1) → ∃ H', (step P Γ (sy (o.dst.getD 0)) (evalT tm') H o.op).val = some (v, H') ∧ (cls P Γ o.op = .E → H' = H1) := by
    intro h
    rw [step_congr hρ] at h
    by_cases hc : cls P Γ o.op = .N
    · refine ⟨H, ?_, fun e => by rw [hc] at e; cases e⟩
      unfold step at h ⊢
      simp only [hc] at h ⊢
      rw [Tr.val_bind] at h ⊢
      cases hs : (stepN P Γ (sy (o.dst.getD 0)) (evalT tm') o.op).val with
      | none => simp [hs] at h
      | some u =>
        simp only [hs, Option.bind_some] at h ⊢
        have := val_ok h
        simp only [Prod.mk.injEq] at this
        rw [this.1]; rfl
    · by_cases hcE : cls P Γ o.op = .E
      · rw [hHE hcE]
        exact ⟨H1, h, fun _ => rfl⟩
      · have hcR : cls P Γ o.op = .R := by cases hx : cls P Γ o.op <;> simp_all
        obtain ⟨Bs, rfl⟩ := hHR hcR
        refine ⟨H0 ++ Bs, ?_, fun e => (hcE e).elim⟩
        unfold step at h ⊢
        simp only [hcR] at h ⊢
        rw [Tr.val_bind] at h ⊢
        cases hs : (stepR P Γ (sy (o.dst.getD 0)) (evalT tm') H0 o.op).val with
        | none => simp [hs] at h
        | some u =>
          simp only [hs, Option.bind_some] at h
          have := val_ok h
          simp only [Prod.mk.injEq] at this
          rw [stepR_monos hM hs, ← this.1]
          rfl
  have gd : ∀ j want, o.guard = some (j, want) → guardT ops tm j = guardT ops tm' j := by
    intro j want hg
    unfold guardT
    cases hoj : ops[j]? with
    | none => rfl
    | some oj =>
      cases hd : oj.dst with
      | none => simp only [hd]
      | some d =>
        have : d ∈ looks ops o := by
          unfold looks
          refine List.mem_append_right _ ?_
          simp [hg, hoj, hd]
        simp only [hd, ht d this]
  suffices hs : ∃ H', semOp P Γ sy ops tm' H o = some (v, H') ∧ (cls P Γ o.op = .E → H' = H1) by
    obtain ⟨H', h1, h2⟩ := hs
    exact ⟨H', h1, h2, keep h1⟩
  unfold semOp at h ⊢
  split at h
  · rename_i hg
    exact key h
  · rename_i j want hg
    rw [← gd j want hg]
    split at h
    · split at h
      · rename_i hc
        simp only [hc, if_true]
        exact key h
      · rename_i hc
        simp only [hc, if_false]
        simp only [Option.some.injEq, Prod.mk.injEq] at h
        refine ⟨H, by rw [h.1], fun e => ?_⟩
        rw [← h.2]
        exact hHE e
    · simp only [Option.some.injEq, Prod.mk.injEq] at h
      refine ⟨H, by rw [h.1], fun e => ?_⟩
      rw [← h.2]
      exact hHE e
    · cases h

end
end Go.AM
