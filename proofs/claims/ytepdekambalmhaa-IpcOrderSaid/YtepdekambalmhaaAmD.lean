/-
  The abstract machine, part 13: functions.
-/
import Derived.Test.YtepdekambalmhaaAmC
import Derived.Below
namespace Go.AM
open Go.RowKit

def resOne (P : Program) (s : ASt) : ResultVar → Option AV
  | .tmp t => match unk (s.tm.getD t (.tup [])) with
    | .v a => some a
    | _ => none
  | .cell a t => match (loadT P s.hp t (unk (s.tm.getD a (.tup [])))).val with
    | some (.v v) => some v
    | _ => none

def resAll (P : Program) (s : ASt) : List ResultVar → Option (List AV)
  | [] => some []
  | r :: rs => match resOne P s r with
    | some a => match resAll P s rs with
      | some as => some (a :: as)
      | none => none
    | none => none

def resT (P : Program) (s : ASt) (rs : List ResultVar) : Option TV :=
  match resAll P s rs with
  | some [a] => some (.v a)
  | some l => some (.tup l)
  | none => none

/-- What is handed back, and the memory: where the code ends or returns. -/
def retT (P : Program) (rs : List ResultVar) (r : Ex × ASt) : Tr (TV × AH) :=
  match r.1 with
  | .exit _ => .no
  | _ => match resT P r.2 rs with
    | some v => forceL r.2.hp fun h => .ok (v, h)
    | none => .no

/-- A function's code, from its arguments on. -/
def call (P : Program) (Γ : Specs) (sy : Nat → Option Nat) (Lp : Loops) (fuel : Nat) (fn : Func) (args : List TV) (H : AH) : Tr (TV × AH) :=
  match fn.body with
  | some c => (exec P Γ sy Lp fuel c ⟨args ++ List.replicate (fn.ntmps - args.length) (.tup []), H⟩).bind (retT P fn.results.toList)
  | none => .no

def LoopsFn (P : Program) (k : Nat) (Lp : Loops) (fn : Func) : Prop := ∀ c, fn.body = some c → LoopsOK P k Lp c

section
variable {P : Program} {Γ : Specs} {sy : Nat → Option Nat} {Lp : Loops} {fuel : Nat} {φ : Phi}

def resSem (tmps : Array Value) : ResultVar → Sem Value
  | .tmp t => pure (tmps.getD t undef)
  | .cell x t => do loadVar t (← asAddr (tmps.getD x undef))

theorem results_eq (fn : Func) (tmps : Array Value) : results fn tmps = (do let vs ← fn.results.mapM (resSem tmps); pure (if h : vs.size = 1 then vs[0] else .tuple vs)) := by
  unfold results
  congr 1

theorem resOne_run {s : ASt} {a : Act} {w : World} {r : ResultVar} {v : AV} (hI : Inv φ s a w) (h : resOne P s r = some v) :
    ∃ u, relA φ v u ∧ (resSem a.tmps r).run P w = .ok u w := by
  have hev : ∀ t, relT φ (unk (s.tm.getD t (.tup []))) (a.tmps.getD t undef) := fun t => evalT_rel (φ := φ) hI.tm (.tmp t)
  cases r with
  | tmp t =>
    simp only [resOne] at h
    split at h
    · rename_i a' ha
      obtain rfl := Option.some.inj h
      have := hev t
      rw [ha] at this
      exact ⟨_, this, rfl⟩
    · cases h
  | cell x t =>
    simp only [resOne] at h
    split at h
    · rename_i v' hv
      obtain rfl := Option.some.inj h
      obtain ⟨u, hu, hrun⟩ := run_loadT hv hI.rep (hev x)
      refine ⟨u, hu, ?_⟩
      unfold Instr.loadAt at hrun
      show (do loadVar t (← asAddr (a.tmps.getD x undef)) : Sem Value).run P w = _
      generalize a.tmps.getD x undef = q at hrun ⊢
      cases q <;> try (simp [Instr.sureAddr] at hrun; done)
      rename_i ad
      cases ad with
      | none => simp [Instr.sureAddr] at hrun
      | some ad => simpa [Instr.sureAddr, asAddr] using hrun
    · cases h

theorem resAll_run {s : ASt} {a : Act} {w : World} (hI : Inv φ s a w) : ∀ {rs : List ResultVar} {vs : List AV}, resAll P s rs = some vs →
    ∃ us : List Value, All2 (relA φ) vs us ∧ (rs.mapM (resSem a.tmps)).run P w = .ok us w
  | [], vs, h => by
    simp only [resAll, Option.some.injEq] at h
    subst h
    exact ⟨[], trivial, by simp⟩
  | r :: rs, vs, h => by
    simp only [resAll] at h
    split at h
    · rename_i v hv
      split at h
      · rename_i as has
        obtain rfl := Option.some.inj h
        obtain ⟨u, hu, hrun⟩ := resOne_run hI hv
        obtain ⟨us, hus, hruns⟩ := resAll_run hI has
        refine ⟨u :: us, ⟨hu, hus⟩, ?_⟩
        rw [List.mapM_cons]
        simp only [Sem.run_bind, hrun, hruns, Result.andThen_ok, Sem.run_pure]
      · cases h
    · cases h

theorem resT_run {s : ASt} {a : Act} {w : World} {fn : Func} {tv : TV} (hI : Inv φ s a w) (h : resT P s fn.results.toList = some tv) :
    ∃ v, relT φ tv v ∧ (results fn a.tmps).run P w = .ok v w := by
  have key : ∀ {vs : List AV}, resAll P s fn.results.toList = some vs → ∃ us : List Value, All2 (relA φ) vs us ∧ (results fn a.tmps).run P w = .ok (if h : us.toArray.size = 1 then us.toArray[0] else .tuple us.toArray) w := by
    intro vs hvs
    obtain ⟨us, h1, h2⟩ := resAll_run hI hvs
    refine ⟨us, h1, ?_⟩
    rw [results_eq, Array.mapM_eq_mapM_toList]
    simp only [Sem.run_bind, Sem.run_map, Sem.run_pure]
    rw [h2]
    rfl
  unfold resT at h
  split at h
  · rename_i v hv
    obtain rfl := Option.some.inj h
    obtain ⟨us, h1, h2⟩ := key hv
    match us, h1 with
    | [u], h1 => exact ⟨u, h1.1, by rw [h2]; rfl⟩
  · rename_i l hn hl
    obtain rfl := Option.some.inj h
    obtain ⟨us, h1, h2⟩ := key hl
    have hne : us.toArray.size ≠ 1 := by
      intro e
      have := h1.length_eq
      match l, this with
      | [a], _ => exact hn a rfl
      | [], e' => simp at e; rw [← e'] at e; simp at e
      | _ :: _ :: _, e' => simp at e; rw [← e'] at e; simp at e
    exact ⟨.tuple us.toArray, ⟨us.toArray, rfl, by simpa using h1⟩, by rw [h2, dif_neg hne]⟩
  · cases h

/-- A call of a function whose code is followed. -/
theorem calls_am (hΓ : SpecOK P Γ) (hm : P.follows .mixedOrders = true) {f : FuncId} {fn : Func} (hf : P.funcs[f]? = some fn) {targs : List TV} {args : List Value} {H : AH} {w : World} (hL : LoopsFn P H.length Lp fn) (hargs : All2 (relT φ) targs args) (hrep : Rep φ H w.heap)
    {R : TV → AH → Prop} (h : (call P Γ sy Lp fuel fn targs H).sat fun r => R r.1 r.2) :
    Calls P f args.toArray w fun e w' => ∃ v φ' tv H', e = .returned v ∧ R tv H' ∧ relT φ' tv v ∧ Rep φ' H' w'.heap ∧ Ext φ H w φ' H' w' := by
  unfold call at h
  cases hb : fn.body with
  | none => rw [hb] at h; exact (Tr.sat_no.1 h).elim
  | some c =>
    simp only [hb] at h
    obtain ⟨r, hr, hR⟩ := h
    rw [Tr.val_bind] at hr
    cases he : (exec P Γ sy Lp fuel c ⟨targs ++ List.replicate (fn.ntmps - targs.length) (.tup []), H⟩).val with
    | none => simp [he] at hr
    | some r1 =>
      simp only [he, Option.bind_some] at hr
      refine calls_of_wp hf hb ?_
      have hlen := hargs.length_eq
      refine exec_goes hΓ hm c (hL c hb) _ _ he ⟨φ, H, w, hrep.len, rfl⟩ φ _ w _ ⟨hrep, ?_, rfl⟩ (Ext.refl _ _ _) fun φ' a' w' hI hE => ?_
      · simp only [Array.toList_append, Array.toList_replicate, List.size_toArray]
        rw [hlen]
        exact hargs.append (All2.replicate ⟨#[], rfl, trivial⟩ _)
      · unfold retT at hr
        have fin : ∀ tv H', (match resT P r1.2 fn.results.toList with
            | some v => forceL r1.2.hp fun h => Tr.ok (v, h)
            | none => .no).val = some (tv, H') → ∃ v, (results fn a'.tmps).run P w' = .ok v w' ∧ relT φ' tv v ∧ H' = r1.2.hp := by
          intro tv H' h
          split at h
          · rename_i v hv
            rw [forceL_eq] at h
            have := val_ok h
            simp only [Prod.mk.injEq] at this
            obtain ⟨rfl, rfl⟩ := this
            obtain ⟨u, hu, hrun⟩ := resT_run hI hv
            exact ⟨u, hrun, hu, rfl⟩
          · simp [Tr.val] at h
        obtain ⟨e1, s1⟩ := r1
        cases e1 with
        | exit id => simp [Tr.val] at hr
        | normal =>
          obtain ⟨v, g1, g2, g3⟩ := fin r.1 r.2 hr
          exact ⟨hI.df, v, g1, v, φ', r.1, r.2, rfl, hR, g2, g3 ▸ hI.rep, g3 ▸ hE⟩
        | ret =>
          obtain ⟨v, g1, g2, g3⟩ := fin r.1 r.2 hr
          exact ⟨hI.df, v, g1, v, φ', r.1, r.2, rfl, hR, g2, g3 ▸ hI.rep, g3 ▸ hE⟩

/-! ### functions that hand back what hangs on no memory -/

def closedS : AS → Bool
  | .b _ | .n _ _ | .pnil | .slnil | .str _ | .fnil => true
  | .fn _ [] => true
  | _ => false

def closedA : AV → Bool
  | .s a => closedS a
  | .agg l => l.all closedS

def closedT : TV → Bool
  | .v a => closedA a
  | .tup l => l.all closedA
  | .any => true
  | .k _ => true

theorem closedS_rel {φ ψ : Phi} {a : AS} {v : Value} (hc : closedS a = true) (h : relS φ a v) : relS ψ a v := by
  cases a <;> first
    | exact h
    | (simp [closedS] at hc; done)
    | skip
  rename_i f caps
  cases caps with
  | nil =>
    obtain ⟨cs, h1, h2⟩ := h
    cases cs with
    | nil => exact ⟨[], h1, trivial⟩
    | cons _ _ => exact h2.elim
  | cons _ _ => simp [closedS] at hc

theorem all_closed {α : Type} {φ ψ : Phi} {R : Phi → α → Value → Prop} {cl : α → Bool} (hr : ∀ a v, cl a = true → R φ a v → R ψ a v) : ∀ {l : List α} {vs : List Value}, l.all cl = true → All2 (R φ) l vs → All2 (R ψ) l vs
  | [], [], _, _ => trivial
  | a :: l, v :: vs, hc, h => by
    simp only [List.all_cons, Bool.and_eq_true] at hc
    exact ⟨hr a v hc.1 h.1, all_closed hr hc.2 h.2⟩
  | [], _ :: _, _, h => h.elim
  | _ :: _, [], _, h => h.elim

theorem closedA_rel {φ ψ : Phi} {a : AV} {v : Value} (hc : closedA a = true) (h : relA φ a v) : relA ψ a v := by
  cases a with
  | s a => exact closedS_rel hc h
  | agg l => obtain ⟨cs, h1, h2⟩ := h; exact ⟨cs, h1, all_closed (R := relS) (fun a v => closedS_rel) hc h2⟩

theorem closedT_rel {φ ψ : Phi} {a : TV} {v : Value} (hc : closedT a = true) (h : relT φ a v) : relT ψ a v := by
  cases a with
  | v a => exact closedA_rel hc h
  | tup l => obtain ⟨cs, h1, h2⟩ := h; exact ⟨cs, h1, all_closed (R := relA) (fun a v => closedA_rel) hc h2⟩
  | any => trivial
  | k b => exact h

def fnOk (P : Program) (f : FuncId) (fn : Func) : Prop := P.funcs[f]? = some fn ∧ (fn.name == "runtime.NumGoroutine") = false ∧ fn.body.isNone = false

theorem rep_nil (heap : Array Obj) : Rep [] [] heap := ⟨rfl, fun id B h => by simp at h, fun id id' B B' L L' b h => by simp at h⟩

/-- A function of closed arguments that hands back a closed value. -/
theorem spec_pure (hΓ : SpecOK P Γ) (hm : P.follows .mixedOrders = true) {f : FuncId} {fn : Func} (hf : fnOk P f fn) (hL : LoopsFn P 0 Lp fn) {F : List TV → Tr TV}
    (h : ∀ targs tv, (F targs).val = some tv → targs.all closedT = true ∧ closedT tv = true ∧ (call P Γ sy Lp fuel fn targs []).sat fun r => r.1 = tv) : SpecF P f (.pure F) := by
  refine .inr ⟨⟨fn, hf⟩, fun φ H w targs args tv H' happ hrep hargs => ?_, trivial⟩
  simp only [Spec.app, Tr.val_bind, Option.bind_eq_some_iff] at happ
  obtain ⟨tv', hF, happ⟩ := happ
  have happ := val_ok happ
  simp only [Prod.mk.injEq] at happ
  obtain ⟨rfl, rfl⟩ := happ
  obtain ⟨h1, h2, h3⟩ := h targs tv' hF
  refine (calls_am (φ := []) (H := []) hΓ hm hf.1 hL (all_closed (R := relT) (fun a v => closedT_rel) h1 hargs) (rep_nil _) (R := fun tv _ => tv = tv') h3).mono ?_
  rintro e w' ⟨v, φ', tv, H', rfl, rfl, g2, g3, g4⟩
  have old : ∀ b, b < w.heap.size → w'.heap[b]? = w.heap[b]? := fun b hb => g4.frame b hb fun id B L hB => by simp at hB
  exact ⟨v, φ, rfl, closedT_rel h2 g2, hrep.of_heap old, ⟨⟨g4.size, ⟨[], by simp⟩, fun b hb _ => old b hb, fun i B L _ h1 h2 h3 => .inr ⟨i, B, L, h1, h2, h3, fun h => h⟩⟩, g4.os, g4.output, g4.tape⟩⟩

/-- Of a call, what it hands back. -/
def callV (P : Program) (Γ : Specs) (sy : Nat → Option Nat) (Lp : Loops) (fuel : Nat) (fn : Func) (args : List TV) (H : AH) : Tr TV :=
  (call P Γ sy Lp fuel fn args H).bind fun r => .ok r.1

def Tr.all {α : Type} (p : α → Bool) : Tr α → Bool
  | .ok a => p a
  | .br _ _ t e => t.all p && e.all p
  | .no => true

theorem Tr.all_val {α : Type} {p : α → Bool} {a : α} : ∀ {t : Tr α}, t.all p = true → t.val = some a → p a = true
  | .ok b, h, hv => by have := val_ok hv; subst this; exact h
  | .br g c t e, h, hv => by
    simp only [Tr.all, Bool.and_eq_true] at h
    cases c
    · exact Tr.all_val h.2 hv
    · exact Tr.all_val h.1 hv
  | .no, _, hv => by simp [Tr.val] at hv

theorem Tr.sat_of_val {α : Type} {t : Tr α} {a : α} (h : t.val = some a) : t.sat fun b => b = a := ⟨a, h, rfl⟩
theorem Tr.val_of_sat {α : Type} {t : Tr α} {a : α} (h : t.sat fun b => b = a) : t.val = some a := by obtain ⟨b, h1, rfl⟩ := h; exact h1

theorem sat_of_callV {fn : Func} {args : List TV} {H : AH} {tv : TV} (h : (callV P Γ sy Lp fuel fn args H).val = some tv) : (call P Γ sy Lp fuel fn args H).sat fun r => r.1 = tv := by
  unfold callV at h
  rw [Tr.val_bind] at h
  cases hc : (call P Γ sy Lp fuel fn args H).val with
  | none => simp [hc] at h
  | some r =>
    simp only [hc, Option.bind_some] at h
    exact ⟨r, hc, val_ok h⟩

def upd (Γ : Specs) (f : FuncId) (s : Spec) : Specs := fun g => match Nat.beq g f with
  | true => s
  | false => Γ g

theorem SpecOK.upd {Γ : Specs} (h : SpecOK P Γ) {f : FuncId} {s : Spec} (hs : SpecF P f s) : SpecOK P (upd Γ f s) := by
  intro g
  unfold AM.upd
  cases hb : Nat.beq g f with
  | true => have := Nat.eq_of_beq_eq_true hb; subst this; exact hs
  | false => exact h g

def noSpecs : Specs := fun _ => .none
theorem noSpecs_ok : SpecOK P noSpecs := fun _ => .inl rfl
def noLoops : Loops := fun _ => none
theorem noLoops_ok {k : Nat} (fn : Func) : LoopsFn P k noLoops fn := fun _ _ _ _ _ h => by simp [noLoops] at h

def syOf (l : List Nat) : Nat → Option Nat := fun d => match l.contains d with
  | true => some d
  | false => none

/-- With places at which a number is told apart. -/
def syOf2 (l sp : List Nat) : Nat → Option Nat := fun d => match sp.contains d with
  | true => some (100000 + d)
  | false => match l.contains d with
    | true => some d
    | false => none

/-- A pure function, its ways told. -/
theorem spec_pureV (hΓ : SpecOK P Γ) (hm : P.follows .mixedOrders = true) {f : FuncId} {fn : Func} (hf : fnOk P f fn) (hL : LoopsFn P 0 Lp fn) {F : List TV → Tr TV}
    (h : ∀ targs tv, (F targs).val = some tv → targs.all closedT = true ∧ (F targs).all closedT = true ∧ (callV P Γ sy Lp fuel fn targs []).val = some tv) : SpecF P f (.pure F) :=
  spec_pure hΓ hm hf hL fun targs tv hv =>
    let ⟨h1, h2, h3⟩ := h targs tv hv
    ⟨h1, Tr.all_val h2 hv, sat_of_callV h3⟩

/-- A call that comes to a closed value, from closed arguments: as a law's is. -/
theorem calls_closed (hΓ : SpecOK P Γ) (hm : P.follows .mixedOrders = true) {f : FuncId} {fn : Func} (hf : P.funcs[f]? = some fn) (hL : LoopsFn P 0 Lp fn) {targs : List TV} {args : List Value} {w : World} (hargs : All2 (relT []) targs args) {tv : TV} {v : Value} (hv : ∀ φ u, relT φ tv u → u = v)
    (h : (callV P Γ sy Lp fuel fn targs []).sat fun r => r = tv) : Calls P f args.toArray w fun e w' => e = .returned v ∧ Below w.heap.size w w' := by
  refine (calls_am (φ := []) (H := []) hΓ hm hf hL hargs (rep_nil _) (R := fun t _ => t = tv) (sat_of_callV (Tr.val_of_sat h))).mono ?_
  rintro e w' ⟨u, φ', t, H', rfl, rfl, g2, g3, g4⟩
  exact ⟨by rw [hv φ' u g2], g4.os, g4.tape, g4.output, g4.size, fun b hb => g4.frame b hb fun id B L hB => by simp at hB⟩
end
end Go.AM
