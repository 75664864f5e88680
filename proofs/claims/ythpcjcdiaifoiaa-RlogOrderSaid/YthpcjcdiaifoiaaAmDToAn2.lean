/-
  The abstract machine, part 13: functions.
-/
import Derived.Test.YthpcjcdiaifoiaaAmBToAmC
import Derived.Below
import Derived.Carry
import Derived.Handed
import Derived.ProofKit
import Derived.Laws.BitsAllLaws
import Derived.Laws.Bits64b
section
namespace Go.AM
open Go.RowKit

def resOne (P : Program) (s : ASt) : ResultVar → Option AV
  | .tmp t => match unk (s.tm.getD t (.tup [])) with
    | .v a => some a
    | _ => none
  | .cell a t => match (loadT P s.hp t (unk (s.tm.getD a (.tup [])))).val with
    | some (.v v) => some v
    | _ => none

def resAll (P : Program) (s : ASt) : List ResultVar → Option (List AV)
  | [] => some []
  | r :: rs => match resOne P s r with
    | some a => match resAll P s rs with
      | some as => some (a :: as)
      | none => none
    | none => none

def resT (P : Program) (s : ASt) (rs : List ResultVar) : Option TV :=
  match resAll P s rs with
  | some [a] => some (.v a)
  | some l => some (.tup l)
  | none => none

/-- What is handed back, and the memory: where the code ends or returns. -/
def retT (P : Program) (rs : List ResultVar) (r : Ex × ASt) : Tr (TV × AH) :=
  match r.1 with
  | .exit _ => .no
  | _ => match resT P r.2 rs with
    | some v => forceL r.2.hp fun h => .ok (v, h)
    | none => .no

/-- A function's code, from its arguments on. -/
def call (P : Program) (Γ : Specs) (sy : Nat → Option Nat) (Lp : Loops) (fuel : Nat) (fn : Func) (args : List TV) (H : AH) : Tr (TV × AH) :=
  match fn.body with
  | some c => (exec P Γ sy Lp fuel c ⟨args ++ List.replicate (fn.ntmps - args.length) (.tup []), H⟩).bind (retT P fn.results.toList)
  | none => .no

def LoopsFn (P : Program) (k : Nat) (Lp : Loops) (fn : Func) : Prop := ∀ c, fn.body = some c → LoopsOK P k Lp c

section
variable {P : Program} {Γ : Specs} {sy : Nat → Option Nat} {Lp : Loops} {fuel : Nat} {φ : Phi}

def resSem (tmps : Array Value) : ResultVar → Sem Value
  | .tmp t => pure (tmps.getD t undef)
  | .cell x t => do loadVar t (← asAddr (tmps.getD x undef))

theorem results_eq (fn : Func) (tmps : Array Value) : results fn tmps = (do let vs ← fn.results.mapM (resSem tmps); pure (if h : vs.size = 1 then vs[0] else .tuple vs)) := by
  unfold results
  congr 1

theorem resOne_run {s : ASt} {a : Act} {w : World} {r : ResultVar} {v : AV} (hI : Inv φ s a w) (h : resOne P s r = some v) :
    ∃ u, relA φ v u ∧ (resSem a.tmps r).run P w = .ok u w := by
  have hev : ∀ t, relT φ (unk (s.tm.getD t (.tup []))) (a.tmps.getD t undef) := fun t => evalT_rel (φ := φ) hI.tm (.tmp t)
  cases r with
  | tmp t =>
    simp only [resOne] at h
    split at h
    · rename_i a' ha
      obtain rfl := Option.some.inj h
      have := hev t
      rw [ha] at this
      exact ⟨_, this, rfl⟩
    · cases h
  | cell x t =>
    simp only [resOne] at h
    split at h
    · rename_i v' hv
      obtain rfl := Option.some.inj h
      obtain ⟨u, hu, hrun⟩ := run_loadT hv hI.rep (hev x)
      refine ⟨u, hu, ?_⟩
      unfold Instr.loadAt at hrun
      show (do loadVar t (← asAddr (a.tmps.getD x undef)) : Sem Value).run P w = _
      generalize a.tmps.getD x undef = q at hrun ⊢
      cases q <;> try (simp [Instr.sureAddr] at hrun; done)
      rename_i ad
      cases ad with
      | none => simp [Instr.sureAddr] at hrun
      | some ad => simpa [Instr.sureAddr, asAddr] using hrun
    · cases h

theorem resAll_run {s : ASt} {a : Act} {w : World} (hI : Inv φ s a w) : ∀ {rs : List ResultVar} {vs : List AV}, resAll P s rs = some vs →
    ∃ us : List Value, All2 (relA φ) vs us ∧ (rs.mapM (resSem a.tmps)).run P w = .ok us w
  | [], vs, h => by
    simp only [resAll, Option.some.injEq] at h
    subst h
    exact ⟨[], trivial, by simp⟩
  | r :: rs, vs, h => by
    simp only [resAll] at h
    split at h
    · rename_i v hv
      split at h
      · rename_i as has
        obtain rfl := Option.some.inj h
        obtain ⟨u, hu, hrun⟩ := resOne_run hI hv
        obtain ⟨us, hus, hruns⟩ := resAll_run hI has
        refine ⟨u :: us, ⟨hu, hus⟩, ?_⟩
        rw [List.mapM_cons]
        simp only [Sem.run_bind, hrun, hruns, Result.andThen_ok, Sem.run_pure]
      · cases h
    · cases h

theorem resT_run {s : ASt} {a : Act} {w : World} {fn : Func} {tv : TV} (hI : Inv φ s a w) (h : resT P s fn.results.toList = some tv) :
    ∃ v, relT φ tv v ∧ (results fn a.tmps).run P w = .ok v w := by
  have key : ∀ {vs : List AV}, resAll P s fn.results.toList = some vs → ∃ us : List Value, All2 (relA φ) vs us ∧ (results fn a.tmps).run P w = .ok (if h : us.toArray.size = 1 then us.toArray[0] else .tuple us.toArray) w := by
    intro vs hvs
    obtain ⟨us, h1, h2⟩ := resAll_run hI hvs
    refine ⟨us, h1, ?_⟩
    rw [results_eq, Array.mapM_eq_mapM_toList]
    simp only [Sem.run_bind, Sem.run_map, Sem.run_pure]
    rw [h2]
    rfl
  unfold resT at h
  split at h
  · rename_i v hv
    obtain rfl := Option.some.inj h
    obtain ⟨us, h1, h2⟩ := key hv
    match us, h1 with
    | [u], h1 => exact ⟨u, h1.1, by rw [h2]; rfl⟩
  · rename_i l hn hl
    obtain rfl := Option.some.inj h
    obtain ⟨us, h1, h2⟩ := key hl
    have hne : us.toArray.size ≠ 1 := by
      intro e
      have := h1.length_eq
      match l, this with
      | [a], _ => exact hn a rfl
      | [], e' => simp at e; rw [← e'] at e; simp at e
      | _ :: _ :: _, e' => simp at e; rw [← e'] at e; simp at e
    exact ⟨.tuple us.toArray, ⟨us.toArray, rfl, by simpa using h1⟩, by rw [h2, dif_neg hne]⟩
  · cases h

/-- A call of a function whose code is followed. -/
theorem calls_am (hΓ : SpecOK P Γ) (hm : P.follows .mixedOrders = true) {f : FuncId} {fn : Func} (hf : P.funcs[f]? = some fn) {targs : List TV} {args : List Value} {H : AH} {w : World} (hL : LoopsFn P H.length Lp fn) (hargs : All2 (relT φ) targs args) (hrep : Rep φ H w.heap)
    {R : TV → AH → Prop} (h : (call P Γ sy Lp fuel fn targs H).sat fun r => R r.1 r.2) :
    Calls P f args.toArray w fun e w' => ∃ v φ' tv H', e = .returned v ∧ R tv H' ∧ relT φ' tv v ∧ Rep φ' H' w'.heap ∧ Ext φ H w φ' H' w' := by
  unfold call at h
  cases hb : fn.body with
  | none => rw [hb] at h; exact (Tr.sat_no.1 h).elim
  | some c =>
    simp only [hb] at h
    obtain ⟨r, hr, hR⟩ := h
    rw [Tr.val_bind] at hr
    cases he : (exec P Γ sy Lp fuel c ⟨targs ++ List.replicate (fn.ntmps - targs.length) (.tup []), H⟩).val with
    | none => simp [he] at hr
    | some r1 =>
      simp only [he, Option.bind_some] at hr
      refine calls_of_wp hf hb ?_
      have hlen := hargs.length_eq
      refine exec_goes hΓ hm c (hL c hb) _ _ he ⟨φ, H, w, hrep.len, rfl⟩ φ _ w _ ⟨hrep, ?_, rfl⟩ (Ext.refl _ _ _) fun φ' a' w' hI hE => ?_
      · simp only [Array.toList_append, Array.toList_replicate, List.size_toArray]
        rw [hlen]
        exact hargs.append (All2.replicate ⟨#[], rfl, trivial⟩ _)
      · unfold retT at hr
        have fin : ∀ tv H', (match resT P r1.2 fn.results.toList with
            | some v => forceL r1.2.hp fun h => Tr.ok (v, h)
            | none => .no).val = some (tv, H') → ∃ v, (results fn a'.tmps).run P w' = .ok v w' ∧ relT φ' tv v ∧ H' = r1.2.hp := by
          intro tv H' h
          split at h
          · rename_i v hv
            rw [forceL_eq] at h
            have := val_ok h
            simp only [Prod.mk.injEq] at this
            obtain ⟨rfl, rfl⟩ := this
            obtain ⟨u, hu, hrun⟩ := resT_run hI hv
            exact ⟨u, hrun, hu, rfl⟩
          · simp [Tr.val] at h
        obtain ⟨e1, s1⟩ := r1
        cases e1 with
        | exit id => simp [Tr.val] at hr
        | normal =>
          obtain ⟨v, g1, g2, g3⟩ := fin r.1 r.2 hr
          exact ⟨hI.df, v, g1, v, φ', r.1, r.2, rfl, hR, g2, g3 ▸ hI.rep, g3 ▸ hE⟩
        | ret =>
          obtain ⟨v, g1, g2, g3⟩ := fin r.1 r.2 hr
          exact ⟨hI.df, v, g1, v, φ', r.1, r.2, rfl, hR, g2, g3 ▸ hI.rep, g3 ▸ hE⟩

/-! ### functions that hand back what hangs on no memory -/

def closedS : AS → Bool
  | .b _ | .n _ _ | .pnil | .slnil | .str _ | .fnil => true
  | .fn _ [] => true
  | _ => false

def closedA : AV → Bool
  | .s a => closedS a
  | .agg l => l.all closedS

def closedT : TV → Bool
  | .v a => closedA a
  | .tup l => l.all closedA
  | .any => true
  | .k _ => true

theorem closedS_rel {φ ψ : Phi} {a : AS} {v : Value} (hc : closedS a = true) (h : relS φ a v) : relS ψ a v := by
  cases a <;> first
    | exact h
    | (simp [closedS] at hc; done)
    | skip
  rename_i f caps
  cases caps with
  | nil =>
    obtain ⟨cs, h1, h2⟩ := h
    cases cs with
    | nil => exact ⟨[], h1, trivial⟩
    | cons _ _ => exact h2.elim
  | cons _ _ => simp [closedS] at hc

theorem all_closed {α : Type} {φ ψ : Phi} {R : Phi → α → Value → Prop} {cl : α → Bool} (hr : ∀ a v, cl a = true → R φ a v → R ψ a v) : ∀ {l : List α} {vs : List Value}, l.all cl = true → All2 (R φ) l vs → All2 (R ψ) l vs
  | [], [], _, _ => trivial
  | a :: l, v :: vs, hc, h => by
    simp only [List.all_cons, Bool.and_eq_true] at hc
    exact ⟨hr a v hc.1 h.1, all_closed hr hc.2 h.2⟩
  | [], _ :: _, _, h => h.elim
  | _ :: _, [], _, h => h.elim

theorem closedA_rel {φ ψ : Phi} {a : AV} {v : Value} (hc : closedA a = true) (h : relA φ a v) : relA ψ a v := by
  cases a with
  | s a => exact closedS_rel hc h
  | agg l => obtain ⟨cs, h1, h2⟩ := h; exact ⟨cs, h1, all_closed (R := relS) (fun a v => closedS_rel) hc h2⟩

theorem closedT_rel {φ ψ : Phi} {a : TV} {v : Value} (hc : closedT a = true) (h : relT φ a v) : relT ψ a v := by
  cases a with
  | v a => exact closedA_rel hc h
  | tup l => obtain ⟨cs, h1, h2⟩ := h; exact ⟨cs, h1, all_closed (R := relA) (fun a v => closedA_rel) hc h2⟩
  | any => trivial
  | k b => exact h

def fnOk (P : Program) (f : FuncId) (fn : Func) : Prop := P.funcs[f]? = some fn ∧ (fn.name == "runtime.NumGoroutine") = false ∧ fn.body.isNone = false

theorem rep_nil (heap : Array Obj) : Rep [] [] heap := ⟨rfl, fun id B h => by simp at h, fun id id' B B' L L' b h => by simp at h⟩

/-- A function of closed arguments that hands back a closed value. -/
theorem spec_pure (hΓ : SpecOK P Γ) (hm : P.follows .mixedOrders = true) {f : FuncId} {fn : Func} (hf : fnOk P f fn) (hL : LoopsFn P 0 Lp fn) {F : List TV → Tr TV}
    (h : ∀ targs tv, (F targs).val = some tv → targs.all closedT = true ∧ closedT tv = true ∧ (call P Γ sy Lp fuel fn targs []).sat fun r => r.1 = tv) : SpecF P f (.pure F) := by
  refine .inr ⟨⟨fn, hf⟩, fun φ H w targs args tv H' happ hrep hargs => ?_, trivial⟩
  simp only [Spec.app, Tr.val_bind, Option.bind_eq_some_iff] at happ
  obtain ⟨tv', hF, happ⟩ := happ
  have happ := val_ok happ
  simp only [Prod.mk.injEq] at happ
  obtain ⟨rfl, rfl⟩ := happ
  obtain ⟨h1, h2, h3⟩ := h targs tv' hF
  refine (calls_am (φ := []) (H := []) hΓ hm hf.1 hL (all_closed (R := relT) (fun a v => closedT_rel) h1 hargs) (rep_nil _) (R := fun tv _ => tv = tv') h3).mono ?_
  rintro e w' ⟨v, φ', tv, H', rfl, rfl, g2, g3, g4⟩
  have old : ∀ b, b < w.heap.size → w'.heap[b]? = w.heap[b]? := fun b hb => g4.frame b hb fun id B L hB => by simp at hB
  exact ⟨v, φ, rfl, closedT_rel h2 g2, hrep.of_heap old, ⟨⟨g4.size, ⟨[], by simp⟩, fun b hb _ => old b hb, fun i B L _ h1 h2 h3 => .inr ⟨i, B, L, h1, h2, h3, fun h => h⟩⟩, g4.os, g4.output, g4.tape⟩⟩

/-- Of a call, what it hands back. -/
def callV (P : Program) (Γ : Specs) (sy : Nat → Option Nat) (Lp : Loops) (fuel : Nat) (fn : Func) (args : List TV) (H : AH) : Tr TV :=
  (call P Γ sy Lp fuel fn args H).bind fun r => .ok r.1

def Tr.all {α : Type} (p : α → Bool) : Tr α → Bool
  | .ok a => p a
  | .br _ _ t e => t.all p && e.all p
  | .no => true

theorem Tr.all_val {α : Type} {p : α → Bool} {a : α} : ∀ {t : Tr α}, t.all p = true → t.val = some a → p a = true
  | .ok b, h, hv => by have := val_ok hv; subst this; exact h
  | .br g c t e, h, hv => by
    simp only [Tr.all, Bool.and_eq_true] at h
    cases c
    · exact Tr.all_val h.2 hv
    · exact Tr.all_val h.1 hv
  | .no, _, hv => by simp [Tr.val] at hv

theorem Tr.sat_of_val {α : Type} {t : Tr α} {a : α} (h : t.val = some a) : t.sat fun b => b = a := ⟨a, h, rfl⟩
theorem Tr.val_of_sat {α : Type} {t : Tr α} {a : α} (h : t.sat fun b => b = a) : t.val = some a := by obtain ⟨b, h1, rfl⟩ := h; exact h1

theorem sat_of_callV {fn : Func} {args : List TV} {H : AH} {tv : TV} (h : (callV P Γ sy Lp fuel fn args H).val = some tv) : (call P Γ sy Lp fuel fn args H).sat fun r => r.1 = tv := by
  unfold callV at h
  rw [Tr.val_bind] at h
  cases hc : (call P Γ sy Lp fuel fn args H).val with
  | none => simp [hc] at h
  | some r =>
    simp only [hc, Option.bind_some] at h
    exact ⟨r, hc, val_ok h⟩

def upd (Γ : Specs) (f : FuncId) (s : Spec) : Specs := fun g => match Nat.beq g f with
  | true => s
  | false => Γ g

theorem SpecOK.upd {Γ : Specs} (h : SpecOK P Γ) {f : FuncId} {s : Spec} (hs : SpecF P f s) : SpecOK P (upd Γ f s) := by
  intro g
  unfold AM.upd
  cases hb : Nat.beq g f with
  | true => have := Nat.eq_of_beq_eq_true hb; subst this; exact hs
  | false => exact h g

def noSpecs : Specs := fun _ => .none
theorem noSpecs_ok : SpecOK P noSpecs := fun _ => .inl rfl
def noLoops : Loops := fun _ => none
theorem noLoops_ok {k : Nat} (fn : Func) : LoopsFn P k noLoops fn := fun _ _ _ _ _ h => by simp [noLoops] at h

def syOf (l : List Nat) : Nat → Option Nat := fun d => match l.contains d with
  | true => some d
  | false => none

/-- With places at which a number is told apart. -/
def syOf2 (l sp : List Nat) : Nat → Option Nat := fun d => match sp.contains d with
  | true => some (100000 + d)
  | false => match l.contains d with
    | true => some d
    | false => none

/-- A pure function, its ways told. -/
theorem spec_pureV (hΓ : SpecOK P Γ) (hm : P.follows .mixedOrders = true) {f : FuncId} {fn : Func} (hf : fnOk P f fn) (hL : LoopsFn P 0 Lp fn) {F : List TV → Tr TV}
    (h : ∀ targs tv, (F targs).val = some tv → targs.all closedT = true ∧ (F targs).all closedT = true ∧ (callV P Γ sy Lp fuel fn targs []).val = some tv) : SpecF P f (.pure F) :=
  spec_pure hΓ hm hf hL fun targs tv hv =>
    let ⟨h1, h2, h3⟩ := h targs tv hv
    ⟨h1, Tr.all_val h2 hv, sat_of_callV h3⟩

/-- A call that comes to a closed value, from closed arguments: as a law's is. -/
theorem calls_closed (hΓ : SpecOK P Γ) (hm : P.follows .mixedOrders = true) {f : FuncId} {fn : Func} (hf : P.funcs[f]? = some fn) (hL : LoopsFn P 0 Lp fn) {targs : List TV} {args : List Value} {w : World} (hargs : All2 (relT []) targs args) {tv : TV} {v : Value} (hv : ∀ φ u, relT φ tv u → u = v)
    (h : (callV P Γ sy Lp fuel fn targs []).sat fun r => r = tv) : Calls P f args.toArray w fun e w' => e = .returned v ∧ Below w.heap.size w w' := by
  refine (calls_am (φ := []) (H := []) hΓ hm hf hL hargs (rep_nil _) (R := fun t _ => t = tv) (sat_of_callV (Tr.val_of_sat h))).mono ?_
  rintro e w' ⟨u, φ', t, H', rfl, rfl, g2, g3, g4⟩
  exact ⟨by rw [hv φ' u g2], g4.os, g4.tape, g4.output, g4.size, fun b hb => g4.frame b hb fun id B L hB => by simp at hB⟩
end
end Go.AM
end

/-
  The abstract machine, part 14: from a law's reading to the machine's arguments, and back.
-/
section
namespace Go.AM
open Go.RowKit Go.ChangeShapes Go.WideShapes

theorem all2_nil {α β : Type} {R : α → β → Prop} : All2 R [] [] := trivial
theorem all2_cons {α β : Type} {R : α → β → Prop} {a : α} {b : β} {as : List α} {bs : List β} (h : R a b) (t : All2 R as bs) : All2 R (a :: as) (b :: bs) := ⟨h, t⟩

def valS : SK → Int → Value
  | .b, x => .bool (x != 0)
  | .n k, x => .int k x

/-- A number that is of its kind. -/
def wfS : SK → Int → Prop
  | .b, x => x = 0 ∨ x = 1
  | .n k, x => k.min ≤ x ∧ x ≤ k.max

theorem relS_mkS (φ : Phi) (k : SK) (x : Int) : relS φ (mkS k x) (valS k x) := by cases k <;> rfl

def valsK : List SK → List Int → List Value
  | k :: ks, x :: xs => valS k x :: valsK ks xs
  | _, _ => []

def mksK : List SK → List Int → List AS
  | k :: ks, x :: xs => mkS k x :: mksK ks xs
  | _, _ => []

def wfsK : List SK → List Int → Prop
  | k :: ks, x :: xs => wfS k x ∧ wfsK ks xs
  | [], [] => True
  | _, _ => False

theorem wfsK.length : ∀ {ks : List SK} {xs : List Int}, wfsK ks xs → xs.length = ks.length
  | [], [], _ => rfl
  | _ :: _, _ :: _, h => by simp [h.2.length]
  | [], _ :: _, h => h.elim
  | _ :: _, [], h => h.elim

theorem rel_mksK (φ : Phi) : ∀ (ks : List SK) (xs : List Int), All2 (relS φ) (mksK ks xs) (valsK ks xs)
  | [], _ => by simp [mksK, valsK, All2]
  | _ :: _, [] => by simp [mksK, valsK, All2]
  | k :: ks, x :: xs => ⟨relS_mkS φ k x, rel_mksK φ ks xs⟩

theorem valsK_append : ∀ {ks ks' : List SK} {xs xs' : List Int}, xs.length = ks.length → valsK (ks ++ ks') (xs ++ xs') = valsK ks xs ++ valsK ks' xs'
  | [], _, [], _, _ => rfl
  | k :: ks, _, x :: xs, _, h => by simp [valsK, valsK_append (ks := ks) (xs := xs) (by simpa using h)]
  | [], _, _ :: _, _, h => by simp at h
  | _ :: _, _, [], _, h => by simp at h

theorem wfsK_append : ∀ {ks ks' : List SK} {xs xs' : List Int}, wfsK ks xs → wfsK ks' xs' → wfsK (ks ++ ks') (xs ++ xs')
  | [], _, [], _, _, h => h
  | _ :: _, _, _ :: _, _, h, h' => ⟨h.1, wfsK_append h.2 h'⟩
  | [], _, _ :: _, _, h, _ => h.elim
  | _ :: _, _, [], _, h, _ => h.elim

/-- Kinds of a type's cells, where these are truth values and numbers. -/
def flatFs (fl : TypeId → Option (List SK)) (sz : TypeId → Nat) : (off : Nat) → List Field → Option (List SK)
  | _, [] => some []
  | off, f :: fs => if f.offset = off then match fl f.type with
      | some ks => if ks.length = sz f.type then match flatFs fl sz (off + ks.length) fs with
          | some r => some (ks ++ r)
          | none => none
        else none
      | none => none
    else none

def flatR (ks : List SK) : Nat → List SK
  | 0 => []
  | n + 1 => ks ++ flatR ks n

def flatK (P : Program) : Nat → TypeId → Option (List SK)
  | 0, _ => none
  | d + 1, t => match P.underlying t with
    | some .bool => some [.b]
    | some (.int k) => some [.n k]
    | some (.struct fs) => match flatFs (flatK P d) P.cellsOf 0 fs.toList with
      | some ks => if ks.length = P.cellsOf t then some ks else none
      | none => none
    | some (.array n e) => match flatK P d e with
      | some ks => if ks.length = P.cellsOf e ∧ n * ks.length = P.cellsOf t then some (flatR ks n) else none
      | none => none
    | _ => none

section
variable {P : Program} {H : Type} {enc : TypeId × Value → H}

theorem wf_of_lit {k : IntKind} {n : Int} (h : (Lit.int k n).wf = true) : k.min ≤ n ∧ n ≤ k.max := by
  simpa [Lit.wf] using h

theorem flatR_length (ks : List SK) : ∀ n, (flatR ks n).length = n * ks.length
  | 0 => by simp [flatR]
  | n + 1 => by simp [flatR, flatR_length ks n, Nat.add_mul]; omega

theorem trod_fields {W : World} {base : Nat} {sp : Nat → Bool} {held : Bool} {d fuel : Nat} {cs : List Value}
    (IH : ∀ t ks cs x, flatK P d t = some ks → DataW.trod enc P W base sp held fuel t cs = some x → ∃ xs, cs = valsK ks xs ∧ wfsK ks xs) :
    ∀ (fs : List Field) (off : Nat) (ks : List SK) (rs : List (DataW H × List MemPlace)), flatFs (flatK P d) P.cellsOf off fs = some ks →
      fs.mapM (fun f => DataW.trod enc P W base sp held fuel f.type ((cs.drop f.offset).take (P.cellsOf f.type))) = some rs → ∃ xs, (cs.drop off).take ks.length = valsK ks xs ∧ wfsK ks xs
  | [], off, ks, rs, h, _ => by
    simp only [flatFs, Option.some.injEq] at h
    subst h
    exact ⟨[], by simp [valsK], trivial⟩
  | f :: fs, off, ks, rs, h, hm => by
    simp only [flatFs] at h
    split at h
    · rename_i ho
      split at h
      · rename_i k1 hk1
        split at h
        · rename_i hl
          split at h
          · rename_i r hr
            obtain rfl := Option.some.inj h
            rw [List.mapM_cons] at hm
            simp only [bind, Option.bind_eq_some_iff, pure, Option.some.injEq] at hm
            obtain ⟨x1, h1, rs', h2, rfl⟩ := hm
            rw [ho] at h1
            obtain ⟨xs1, e1, w1⟩ := IH _ _ _ _ hk1 h1
            obtain ⟨xs2, e2, w2⟩ := trod_fields IH fs (off + k1.length) r rs' hr h2
            refine ⟨xs1 ++ xs2, ?_, wfsK_append w1 w2⟩
            rw [valsK_append w1.length, ← e1, ← e2, List.length_append, ← hl, List.take_add, List.drop_drop]
          · cases h
        · cases h
      · cases h
    · cases h

theorem trod_items {W : World} {base : Nat} {sp : Nat → Bool} {held : Bool} {fuel : Nat} {e : TypeId} {ks : List SK} {cs : List Value}
    (IH : ∀ cs x, DataW.trod enc P W base sp held fuel e cs = some x → ∃ xs, cs = valsK ks xs ∧ wfsK ks xs) (hl : ks.length = P.cellsOf e) :
    ∀ (n i : Nat) (rs : List (DataW H × List MemPlace)), (List.range' i n).mapM (fun i => DataW.trod enc P W base sp held fuel e ((cs.drop (i * P.cellsOf e)).take (P.cellsOf e))) = some rs →
      ∃ xs, (cs.drop (i * ks.length)).take (flatR ks n).length = valsK (flatR ks n) xs ∧ wfsK (flatR ks n) xs
  | 0, i, rs, _ => ⟨[], by simp [flatR, valsK], trivial⟩
  | n + 1, i, rs, hm => by
    rw [List.range'_succ, List.mapM_cons] at hm
    simp only [bind, Option.bind_eq_some_iff, pure, Option.some.injEq] at hm
    obtain ⟨x1, h1, rs', h2, rfl⟩ := hm
    obtain ⟨xs1, e1, w1⟩ := IH _ _ h1
    obtain ⟨xs2, e2, w2⟩ := trod_items IH hl n (i + 1) rs' h2
    refine ⟨xs1 ++ xs2, ?_, wfsK_append w1 w2⟩
    simp only [flatR, List.length_append]
    rw [valsK_append w1.length, ← e1, ← e2, ← hl, List.take_add, List.drop_drop, Nat.add_mul, Nat.one_mul]

/-- What is read at a flat type: numbers of their kinds. -/
theorem trod_flat {W : World} {base : Nat} {sp : Nat → Bool} {held : Bool} : ∀ (d : Nat) (t : TypeId) (ks : List SK) (fuel : Nat) (cs : List Value) (x : DataW H × List MemPlace), flatK P d t = some ks → DataW.trod enc P W base sp held fuel t cs = some x →
    ∃ xs, cs = valsK ks xs ∧ wfsK ks xs
  | 0, _, _, _, _, _, h, _ => by simp [flatK] at h
  | _ + 1, _, _, 0, _, _, _, hx => by simp [DataW.trod] at hx
  | d + 1, t, ks, fuel + 1, cs, x, h, hx => by
    unfold flatK at h
    have hx0 := hx
    unfold DataW.trod at hx
    split at h
    · rename_i hu
      obtain rfl := Option.some.inj h
      obtain ⟨b, rfl, _⟩ := DataW.trod_bool (fuel := fuel + 1) hu hx0
      refine ⟨[if b = true then 1 else 0], ?_, ?_⟩
      · cases b <;> rfl
      · cases b <;> simp [wfsK, wfS]
    · rename_i k hu
      obtain rfl := Option.some.inj h
      obtain ⟨n, rfl, _, hw⟩ := DataW.trod_int (fuel := fuel + 1) hu hx0
      exact ⟨[n], rfl, wf_of_lit hw, trivial⟩
    · rename_i fs hu
      split at h
      · rename_i ks' hks
        split at h
        · rename_i hlen
          obtain rfl := Option.some.inj h
          rw [hu] at hx
          split at hx
          all_goals first
            | (simp at *; done)
            | skip
          rename_i fs' _ heq
          simp only [Option.some.injEq, TypeDesc.struct.injEq] at heq
          subst heq
          split at hx
          · rename_i hcl
            simp only [Option.map_eq_some_iff] at hx
            obtain ⟨rs, hrs, rfl⟩ := hx
            obtain ⟨xs, e1, w1⟩ := trod_fields (fun t ks cs x h1 h2 => trod_flat d t ks fuel cs x h1 h2) _ 0 _ rs hks hrs
            refine ⟨xs, ?_, w1⟩
            rw [← e1, hlen, ← hcl]
            simp
          · cases hx
        · cases h
      · cases h
    · rename_i n e hu
      split at h
      · rename_i ks' hks
        split at h
        · rename_i hlen
          obtain rfl := Option.some.inj h
          rw [hu] at hx
          split at hx
          all_goals first
            | (simp at *; done)
            | skip
          rename_i n' e' _ heq
          simp only [Option.some.injEq, TypeDesc.array.injEq] at heq
          obtain ⟨rfl, rfl⟩ := heq
          split at hx
          · rename_i hcl
            simp only [Option.map_eq_some_iff] at hx
            obtain ⟨rs, hrs, rfl⟩ := hx
            rw [List.range_eq_range'] at hrs
            obtain ⟨xs, e1, w1⟩ := trod_items (fun cs x h2 => trod_flat d _ _ fuel cs x hks h2) hlen.1 n 0 rs hrs
            refine ⟨xs, ?_, w1⟩
            rw [← e1, flatR_length, hlen.2, ← hcl]
            simp
          · cases hx
        · cases h
      · cases h
    · cases h

def argT (b : Bool) (ks : List SK) (xs : List Int) : TV :=
  match b with
  | true => .v (.agg (mksK ks xs))
  | false => match mksK ks xs with
    | [a] => .v (.s a)
    | _ => .any

/-- An argument of a flat type. -/
theorem open_flat {W : World} {base base' : Nat} {sp : Nat → Bool} {held : Bool} {t : TypeId} {ks : List SK} {b : Bool} {v : Value} {dd : DataW H} {ps : List MemPlace} {n : Nat} (hk : flatK P n t = some ks) (hb : aggT P t = some b)
    (hok : Value.okWide P W .any base' t v) (ht : DataW.Trod enc P W base sp held t v dd ps) : ∃ xs, wfsK ks xs ∧ ∀ φ, relT φ (argT b ks xs) v := by
  obtain ⟨fuel, hf⟩ := ht
  obtain ⟨xs, hc, hw⟩ := trod_flat n t ks fuel _ _ hk hf
  refine ⟨xs, hw, fun φ => ?_⟩
  have hlen := hw.length
  cases b with
  | true =>
    unfold aggT at hb
    have hag : ∃ cs, v = .agg cs := by
      unfold Value.okWide at hok
      split at hb <;> simp_all
      · obtain ⟨cs, h, _⟩ := hok; exact ⟨cs, h⟩
      · obtain ⟨cs, h, _⟩ := hok; exact ⟨cs, h⟩
    obtain ⟨cs, rfl⟩ := hag
    refine ⟨cs, rfl, ?_⟩
    have : cs.toList = valsK ks xs := hc
    rw [this]
    exact rel_mksK φ ks xs
  | false =>
    cases n with
    | zero => simp [flatK] at hk
    | succ n =>
      unfold flatK at hk
      unfold aggT at hb
      split at hk
      · rename_i hu
        obtain rfl := Option.some.inj hk
        obtain ⟨b, rfl⟩ := okWide_bool hu hok
        match xs, hlen with
        | [x], _ =>
          have h1 : [Value.bool b] = [valS .b x] := hc
          simp only [List.cons.injEq, and_true] at h1
          show Value.bool b = Value.bool (x != 0)
          exact h1
      · rename_i k hu
        obtain rfl := Option.some.inj hk
        obtain ⟨m, rfl⟩ := okWide_int hu hok
        match xs, hlen with
        | [x], _ =>
          have h1 : [Value.int k m] = [valS (.n k) x] := hc
          simp only [List.cons.injEq, and_true] at h1
          exact h1
      · rename_i fs hu; simp [hu] at hb
      · rename_i m e hu; simp [hu] at hb
      · cases hk

def mkF (x : Nat → Int) : Nat → List SK → List AS
  | _, [] => []
  | i, k :: ks => mkS k (x i) :: mkF x (i + 1) ks

def argF (b : Bool) (ks : List SK) (x : Nat → Int) : TV :=
  match b with
  | true => .v (.agg (mkF x 0 ks))
  | false => match mkF x 0 ks with
    | [a] => .v (.s a)
    | _ => .any

theorem mkF_eq : ∀ {ks : List SK} {xs : List Int} {x : Nat → Int} {i : Nat}, wfsK ks xs → (∀ j a, xs[j]? = some a → x (i + j) = a) → mkF x i ks = mksK ks xs
  | [], [], _, _, _, _ => rfl
  | k :: ks, y :: ys, x, i, h, hx => by
    have e1 : x i = y := hx 0 y rfl
    have e2 : mkF x (i + 1) ks = mksK ks ys := mkF_eq h.2 fun j a ha => by
      rw [show i + 1 + j = i + (j + 1) by omega]
      exact hx (j + 1) a (by simpa using ha)
    simp only [mkF, mksK, e1, e2]
  | [], _ :: _, _, _, h, _ => h.elim
  | _ :: _, [], _, _, h, _ => h.elim

theorem wfsK_at : ∀ {ks : List SK} {xs : List Int} {i : Nat} {k : SK}, wfsK ks xs → ks[i]? = some k → wfS k (xs.getD i 0)
  | k :: ks, y :: ys, 0, k', h, hi => by simp at hi; subst hi; exact h.1
  | k :: ks, y :: ys, i + 1, k', h, hi => by simpa using wfsK_at h.2 (by simpa using hi)
  | [], _, i, _, _, hi => by simp at hi
  | _ :: _, [], _, _, h, _ => h.elim

/-- An argument of a flat type, by its numbers. -/
theorem open_flatF {W : World} {base base' : Nat} {sp : Nat → Bool} {held : Bool} {t : TypeId} {ks : List SK} {b : Bool} {v : Value} {dd : DataW H} {ps : List MemPlace} {n : Nat} (hk : flatK P n t = some ks) (hb : aggT P t = some b)
    (hok : Value.okWide P W .any base' t v) (ht : DataW.Trod enc P W base sp held t v dd ps) : ∃ x : Nat → Int, (∀ (i : Nat) k, ks[i]? = some k → wfS k (x i)) ∧ ∀ φ, relT φ (argF b ks x) v := by
  obtain ⟨xs, hw, hr⟩ := open_flat hk hb hok ht
  refine ⟨fun i => xs.getD i 0, fun i k hi => wfsK_at hw hi, fun φ => ?_⟩
  have e : mkF (fun i => xs.getD i 0) 0 ks = mksK ks xs := mkF_eq hw fun j a ha => by simp [List.getD, ha]
  have := hr φ
  unfold argF
  rw [e]
  exact this

theorem below_of_ext {W W' : World} {φ : Phi} {Hp : AH} {φ' : Phi} {H' : AH} (hno : ∀ (id : Nat) (B : Blk), Hp[id]? = some (some B) → B.mut = false) (h : Ext φ Hp W φ' H' W') : Below W.heap.size W W' :=
  ⟨h.os, h.tape, h.output, h.size, fun k hk => h.frame k hk fun id B L h1 h2 => by rw [hno id B h1] at h2; cases h2⟩

theorem keptBut_of_below {W W' : World} (h : Below W.heap.size W W') (may : MemPlace → Prop) : W.keptBut W' may := by
  refine ⟨h.os, h.output, fun i hi => ?_⟩
  rw [h.block i hi]
  cases W.heap[i]? with
  | none => rfl
  | some o => cases o <;> first | exact ⟨rfl, rfl, rfl, fun _ _ => rfl⟩ | exact .inr ⟨rfl, rfl⟩ | rfl

theorem frozen_of_below {W W' : World} (h : Below W.heap.size W W') {a : Addr} (ha : a.block < W.heap.size) : W'.frozen? a = W.frozen? a := by
  simp [World.frozen?, h.block _ ha]

theorem trodAll_stays (hl : laidOutB P = true) {W W' : World} (hb : Below W.heap.size W W') {sp : Nat → Bool} : ∀ {ts : List TypeId} {vs : List Value} {ds : List (DataW H)} {ps : List MemPlace}, (∀ t ∈ ts, P.readableRec t = true ∧ t < P.types.size) →
    DataW.TrodAll enc P W 0 (fun _ => true) true ts vs ds ps → (∀ p ∈ ps, p.block < W.heap.size) → (∀ p ∈ ps, sp p.block = true) → DataW.TrodAll enc P W' 0 sp true ts vs ds ps
  | [], [], [], _, _, h, _, _ => h
  | t :: ts, v :: vs, d :: ds, _, ht, ⟨p, q, h1, h2, e⟩, hlt, hs => by
    subst e
    refine ⟨p, q, WideElems.Trod_stays hl (ht t (by simp)).1 (ht t (by simp)).2 h1 (fun x hx => hb.same (hlt x (by simp [hx]))) (fun x hx => hs x (by simp [hx])), ?_, rfl⟩
    exact trodAll_stays hl hb (fun t ht' => ht t (by simp [ht'])) h2 (fun x hx => hlt x (by simp [hx])) (fun x hx => hs x (by simp [hx]))
  | [], [], _ :: _, _, _, h, _, _ => h.elim
  | [], _ :: _, _, _, _, h, _, _ => h.elim
  | _ :: _, [], _, _, _, h, _, _ => h.elim
  | _ :: _, _ :: _, [], _, _, h, _, _ => h.elim

theorem trodAll_len {W : World} {base : Nat} {sp : Nat → Bool} {held : Bool} : ∀ {ts : List TypeId} {vs : List Value} {ds : List (DataW H)} {ps : List MemPlace}, DataW.TrodAll enc P W base sp held ts vs ds ps → ds.length = ts.length ∧ vs.length = ts.length
  | [], [], [], _, _ => ⟨rfl, rfl⟩
  | _ :: _, _ :: _, _ :: _, _, ⟨p, q, h1, h2, e⟩ => by simp [trodAll_len h2]
  | [], [], _ :: _, _, h => h.elim
  | [], _ :: _, _, _, h => h.elim
  | _ :: _, [], _, _, h => h.elim
  | _ :: _, _ :: _, [], _, h => h.elim

/-- A law's row, but for its closed facts: where the call comes to 'true' and leaves what was there. -/
theorem law_lifted {C : Checked} {os : Os} {f : FuncId} {fn : Func} {s : ChangeSpec} {tb : TypeId} (own : ownKnob C.prog.godebug = none) (started : os.Started) (noInit : C.prog.inits.idxOf? f = none) (hfn : C.prog.funcs[f]? = some fn)
    (hl : laidOutB C.prog = true) (hps : (fn.params.toList.all fun t => C.prog.readableRec t && decide (t < C.prog.types.size)) = true) (hres : fn.resultTypes = #[tb]) (hub : C.prog.underlying tb = some .bool) (hv : s.vars = [])
    (hs : ∀ (ds : List (DataW H)), ds.length = fn.params.toList.length → s.fn H ds = { results := [.lit (.bool true)], args := ds })
    (witness : ∃ (w : World) (tape : Tape) (i : Input), w.os = os ∧ (w.forCall tape i).Shaped C.prog ∧ i.vars = [] ∧ Input.okWide C.prog (w.forCall tape i) .any w.heap.size f i ∧
      s.pre6 enc C.prog fn [] false (w.forCall tape i).memory i.args ∧ ({} : Assume).holds C.prog (lone (Frame.enter C.prog f i.args .normal) [] (w.forCall tape i)))
    (hcall : ∀ (W : World) (base : Nat) (args : List Value) (ds : List (DataW H)) (ps : List MemPlace), (∀ (j : Nat) t v, fn.params.toList[j]? = some t → args[j]? = some v → Value.okWide C.prog W .any base t v) →
      DataW.TrodAll enc C.prog W 0 (fun _ => true) true fn.params.toList args ds ps → Calls C.prog f args.toArray W fun e W' => e = .returned (.bool true) ∧ Below W.heap.size W W') :
    ReturnsInHanded {} C os f .any (s.pre6 enc C.prog fn [] false) (s.post enc C.prog fn false true false false) := by
  refine returnsInHanded_of_change (C := C) own started noInit hfn witness ?_
  intro W base args ds gs before hval hW hcnd _
  have hW' := hW
  obtain ⟨p, q, hA, hV, hpq, hfz, hnd⟩ := hW
  rw [hv] at hV
  obtain ⟨rfl, rfl⟩ := trodVars_none hV
  simp only [List.append_nil] at hpq
  subst hpq
  have hlt : ∀ x ∈ before, x.block < W.heap.size := fun x hx => by simpa using hW'.lt x hx
  have hts : ∀ t ∈ fn.params.toList, C.prog.readableRec t = true ∧ t < C.prog.types.size := by
    intro t ht
    have := List.all_eq_true.1 hps t ht
    simpa using this
  obtain ⟨hdl, hal⟩ := trodAll_len hA
  have hc := hcall W base args.toList ds before (fun j t v h1 h2 => hval j t v (by simpa using h1) (by simpa using h2)) hA
  rw [Array.toArray_toList] at hc
  refine hc.mono fun e W' ⟨he, hb⟩ => ⟨.bool true, he, ?_⟩
  have hsd : s.fn H (ds ++ []) = { results := [.lit (.bool true)], args := ds } := by rw [List.append_nil]; exact hs ds hdl
  have hold : ∀ p ∈ before, (fun b => decide (b < W.heap.size)) p.block = true := fun p hp => by simpa using hlt p hp
  refine ⟨ds, [], before, [], before, [], hW', ?_, ?_, ?_, keptBut_of_below hb _, fun h => by cases h⟩
  · rw [hsd, hres]
    exact trodAll_mk1 (shut_bool hub _)
  · rw [hsd]
    exact trodAll_stays hl hb hts hA hlt hold
  · rw [hsd, hv]
    rfl
end
end Go.AM
end

/-
  The abstract machine, part 16: which loop of a function is meant.
-/
section
namespace Go.AM

def Loops.set (Lp : Loops) (k : Nat) (F : ASt → Tr (Ex × ASt)) : Loops := fun g => match Nat.beq g k with
  | true => some F
  | false => Lp g

/-- Each loop of the code has what it comes to, or is unrolled. -/
theorem loopsOK_of {P : Program} {kb : Nat} {Lp : Loops} {c : Code} (h : ∀ p ∈ loopsIn c, match Lp p.1 with | some F => LoopF P kb p.2 F | none => True) : LoopsOK P kb Lp c := by
  intro p hp F hF
  have := h p hp
  rw [hF] at this
  exact this

def loopsOf (fn : Func) : List (Nat × Code) := match fn.body with
  | some c => loopsIn c
  | none => []

def codeOf : List (Nat × Code) → Nat → Code
  | [], _ => .skip
  | (k, c) :: r, n => match Nat.beq k n with
    | true => c
    | false => codeOf r n

def loopAt (fn : Func) (k : Nat) : Code := codeOf (loopsOf fn) k

/-- No two loops of the code have this number. -/
def oneLoop : List (Nat × Code) → Nat → Bool
  | [], _ => true
  | (k, _) :: r, n => match Nat.beq k n with
    | true => r.all fun p => !Nat.beq p.1 n
    | false => oneLoop r n

theorem codeOf_mem : ∀ {l : List (Nat × Code)} {n : Nat} {p : Nat × Code}, oneLoop l n = true → p ∈ l → p.1 = n → p.2 = codeOf l n
  | [], _, _, _, h, _ => by simp at h
  | (k, c) :: r, n, p, h, hp, hn => by
    simp only [oneLoop] at h
    simp only [codeOf]
    cases hk : Nat.beq k n with
    | true =>
      simp only [hk] at h ⊢
      rcases List.mem_cons.1 hp with rfl | hp
      · rfl
      · have := List.all_eq_true.1 h p hp
        simp [hn] at this
    | false =>
      simp only [hk] at h ⊢
      rcases List.mem_cons.1 hp with rfl | hp
      · simp only at hn
        subst hn
        simp at hk
      · exact codeOf_mem h hp hn

theorem loopsFn_set {P : Program} {kb : Nat} {Lp : Loops} {fn : Func} {k : Nat} {F : ASt → Tr (Ex × ASt)} (hL : LoopsFn P kb Lp fn) (h1 : oneLoop (loopsOf fn) k = true) (h2 : LoopF P kb (loopAt fn k) F) : LoopsFn P kb (Lp.set k F) fn := by
  intro c hc p hp F' hF'
  unfold Loops.set at hF'
  cases hk : Nat.beq p.1 k with
  | true =>
    simp only [hk] at hF'
    obtain rfl := Option.some.inj hF'
    have e : loopsOf fn = loopsIn c := by simp [loopsOf, hc]
    have := codeOf_mem h1 (e ▸ hp) (Nat.eq_of_beq_eq_true hk)
    rw [this]
    exact h2
  | false =>
    simp only [hk] at hF'
    exact hL c hc p hp F' hF'

theorem loopsIn_sub : ∀ {c : Code} {p q : Nat × Code}, p ∈ loopsIn c → q ∈ loopsIn p.2 → q ∈ loopsIn c
  | .seq a b, p, q, hp, hq => by
    simp only [loopsIn, List.mem_append] at hp ⊢
    exact hp.imp (fun h => loopsIn_sub h hq) (fun h => loopsIn_sub h hq)
  | .cond _ a b, p, q, hp, hq => by
    simp only [loopsIn, List.mem_append] at hp ⊢
    exact hp.imp (fun h => loopsIn_sub h hq) (fun h => loopsIn_sub h hq)
  | .block _ c, p, q, hp, hq => by simp only [loopsIn] at hp ⊢; exact loopsIn_sub hp hq
  | .scope c, p, q, hp, hq => by simp only [loopsIn] at hp ⊢; exact loopsIn_sub hp hq
  | .loop c, p, q, hp, hq => by
    simp only [loopsIn, List.mem_append] at hp ⊢
    rcases hp with hp | hp
    · split at hp
      · simp only [List.mem_singleton] at hp
        subst hp
        exact .inr hq
      · simp at hp
    · exact .inr (loopsIn_sub hp hq)
  | .skip, _, _, hp, _ => by simp [loopsIn] at hp
  | .label _, _, _, hp, _ => by simp [loopsIn] at hp
  | .region .., _, _, hp, _ => by simp [loopsIn] at hp
  | .exit _, _, _, hp, _ => by simp [loopsIn] at hp
  | .ret, _, _, hp, _ => by simp [loopsIn] at hp
  | .rangeFunc .., _, _, hp, _ => by simp [loopsIn] at hp
  | .goto _, _, _, hp, _ => by simp [loopsIn] at hp
  | .refuse _, _, _, hp, _ => by simp [loopsIn] at hp

theorem codeOf_in : ∀ {l : List (Nat × Code)} {n : Nat}, codeOf l n = .skip ∨ (n, codeOf l n) ∈ l
  | [], _ => .inl rfl
  | (k, c) :: r, n => by
    simp only [codeOf]
    cases hk : Nat.beq k n with
    | true => have := Nat.eq_of_beq_eq_true hk; subst this; exact .inr (by simp)
    | false => exact (codeOf_in (l := r) (n := n)).imp id (fun h => by simp [h])

/-- The loops within a function's loop. -/
theorem loopsOK_at {P : Program} {kb : Nat} {Lp : Loops} {fn : Func} (hL : LoopsFn P kb Lp fn) (k : Nat) : LoopsOK P kb Lp (loopAt fn k) := by
  intro p hp F hF
  unfold loopAt at hp
  rcases codeOf_in (l := loopsOf fn) (n := k) with h | h
  · rw [h] at hp; simp [loopsIn] at hp
  · unfold loopsOf at h hp
    cases hb : fn.body with
    | none => simp [hb] at h
    | some c =>
      simp only [hb] at h hp
      exact hL c hb p (loopsIn_sub h hp) F hF

end Go.AM
end

/-
  The abstract machine, part 16: numbers: wrapping, shifts and bits as arithmetic.
-/
section
namespace Go.AM
open Go

theorem wrap_u64 {x : Int} (h0 : 0 ≤ x) (h1 : x < 18446744073709551616) : IntKind.u64.wrap x = x := by
  simp [IntKind.wrap, IntKind.bits, IntKind.signed]; omega
theorem wrap_u8 {x : Int} (h0 : 0 ≤ x) (h1 : x < 256) : IntKind.u8.wrap x = x := by
  simp [IntKind.wrap, IntKind.bits, IntKind.signed]; omega
theorem wrap_u16 {x : Int} (h0 : 0 ≤ x) (h1 : x < 65536) : IntKind.u16.wrap x = x := by
  simp [IntKind.wrap, IntKind.bits, IntKind.signed]; omega
theorem wrap_u32 {x : Int} (h0 : 0 ≤ x) (h1 : x < 4294967296) : IntKind.u32.wrap x = x := by
  simp [IntKind.wrap, IntKind.bits, IntKind.signed]; omega
theorem wrap_i64 {x : Int} (h0 : -9223372036854775808 ≤ x) (h1 : x < 9223372036854775808) : IntKind.i64.wrap x = x := by
  simp [IntKind.wrap, IntKind.bits, IntKind.signed]; omega
theorem wrap_u64_mod (x : Int) : IntKind.u64.wrap x = x % 18446744073709551616 := by
  simp [IntKind.wrap, IntKind.bits, IntKind.signed]
theorem wrap_u8_mod (x : Int) : IntKind.u8.wrap x = x % 256 := by
  simp [IntKind.wrap, IntKind.bits, IntKind.signed]
theorem wrap_u64_nat {n : Nat} (h : n < 18446744073709551616) : IntKind.u64.wrap (n : Int) = n := wrap_u64 (Int.natCast_nonneg n) (by omega)
end Go.AM
end

/-
  Words: what 'word.Field' and 'word.With' compute, bit by bit.
-/
section
namespace Go.AM
open Go

/-! ### what the code computes (as the explorer prints it) -/

def wIs (x0 : Int) (x1 : Int) : Bool :=
  bif decide (x0 ≥ 0) then (bif decide (x0 < 64) then (bif decide (x1 ≥ 1) then decide (x1 ≤ IntKind.i64.wrap (64 - x0))
  else false)
  else false)
  else false
def wMask (x0 : Int) : Int :=
  bif decide (0 ≤ IntKind.i64.wrap (64 - x0)) then Int.fdiv 18446744073709551615 (2 ^ shiftN IntKind.u64 (IntKind.i64.wrap (64 - x0)))
  else 0
def wMaskOk (x0 : Int) : Bool :=
  bif decide (0 ≤ IntKind.i64.wrap (64 - x0)) then true
  else false
def wField (x0 : Int) (x1 : Int) (x2 : Int) : Int :=
  bif !wIs x1 x2 then 0
  else bif decide (0 ≤ x1) then (bif wMaskOk x2 then bits BinOp.and IntKind.u64 (x0.fdiv (2 ^ shiftN IntKind.u64 x1)) (wMask x2)
  else 0)
  else 0
def wFieldOk (_x0 : Int) (x1 : Int) (x2 : Int) : Bool :=
  bif !wIs x1 x2 then true
  else bif decide (0 ≤ x1) then (bif wMaskOk x2 then true
  else false)
  else false
def wWith (x0 : Int) (x1 : Int) (x2 : Int) (x3 : Int) : Int :=
  bif !wIs x1 x2 then 0
  else bif wMaskOk x2 then (bif bits BinOp.andNot IntKind.u64 x3 (wMask x2) != 0 then 0
  else bif wMaskOk x2 then (bif decide (0 ≤ x1) then (bif decide (0 ≤ x1) then bits BinOp.or IntKind.u64 (bits BinOp.andNot IntKind.u64 x0 (IntKind.u64.wrap (wMask x2 * 2 ^ shiftN IntKind.u64 x1)))   (IntKind.u64.wrap (x3 * 2 ^ shiftN IntKind.u64 x1))
  else 0)
  else 0)
  else 0)
  else 0
def wWithE (_x0 : Int) (x1 : Int) (x2 : Int) (x3 : Int) : Int :=
  bif !wIs x1 x2 then 1
  else bif wMaskOk x2 then (bif bits BinOp.andNot IntKind.u64 x3 (wMask x2) != 0 then 2
  else bif wMaskOk x2 then (bif decide (0 ≤ x1) then (bif decide (0 ≤ x1) then 0
  else 0)
  else 0)
  else 0)
  else 0
def wWithOk (_x0 : Int) (x1 : Int) (x2 : Int) (x3 : Int) : Bool :=
  bif !wIs x1 x2 then true
  else bif wMaskOk x2 then (bif bits BinOp.andNot IntKind.u64 x3 (wMask x2) != 0 then true
  else bif wMaskOk x2 then (bif decide (0 ≤ x1) then (bif decide (0 ≤ x1) then true
  else false)
  else false)
  else false)
  else false

/-! ### in plain numbers -/

def fieldN (n a d : Nat) : Nat := (n / 2 ^ a) &&& (2 ^ d - 1)
def withN (n a d v : Nat) : Nat := (n &&& (18446744073709551615 - (2 ^ d - 1) * 2 ^ a)) ||| (v * 2 ^ a)

theorem fieldN_bit (n a d i : Nat) : (fieldN n a d).testBit i = (n.testBit (a + i) && decide (i < d)) := by
  unfold fieldN
  rw [Nat.testBit_and, Nat.testBit_two_pow_sub_one, ← Nat.shiftRight_eq_div_pow, Nat.testBit_shiftRight]

theorem fieldN_lt (n a d : Nat) : fieldN n a d < 2 ^ d := by
  unfold fieldN
  rw [Nat.and_two_pow_sub_one_eq_mod]
  exact Nat.mod_lt _ (Nat.two_pow_pos d)

theorem mul_pow_bit (v a i : Nat) : (v * 2 ^ a).testBit i = (decide (a ≤ i) && v.testBit (i - a)) := by
  rw [← Nat.shiftLeft_eq, Nat.testBit_shiftLeft]

theorem mask_lt {a d : Nat} (h : a + d ≤ 64) : (2 ^ d - 1) * 2 ^ a < 18446744073709551616 := by
  have h1 : (2 ^ d - 1) * 2 ^ a < 2 ^ d * 2 ^ a := Nat.mul_lt_mul_of_pos_right (Nat.sub_lt (Nat.two_pow_pos d) (by decide)) (Nat.two_pow_pos a)
  have h2 : 2 ^ d * 2 ^ a = 2 ^ (d + a) := (Nat.pow_add ..).symm
  have h3 : (2 : Nat) ^ (d + a) ≤ 2 ^ 64 := Nat.pow_le_pow_right (by decide) (by omega)
  have h4 : (2 : Nat) ^ 64 = 18446744073709551616 := by decide
  omega

theorem val_shift_lt {v a d : Nat} (hv : v < 2 ^ d) (h : a + d ≤ 64) : v * 2 ^ a < 18446744073709551616 :=
  Nat.lt_of_le_of_lt (Nat.mul_le_mul_right _ (by omega)) (mask_lt h)

theorem withN_bit {n a d v : Nat} (hn : n < 18446744073709551616) (hv : v < 2 ^ d) (h : a + d ≤ 64) (i : Nat) :
    (withN n a d v).testBit i = if a ≤ i ∧ i < a + d then v.testBit (i - a) else n.testBit i := by
  unfold withN
  have hm := mask_lt h
  have e : 18446744073709551615 - (2 ^ d - 1) * 2 ^ a = 2 ^ 64 - ((2 ^ d - 1) * 2 ^ a + 1) := by
    have : (2 : Nat) ^ 64 = 18446744073709551616 := by decide
    omega
  rw [Nat.testBit_or, Nat.testBit_and, mul_pow_bit, e, Nat.testBit_two_pow_sub_succ (by simpa using hm), mul_pow_bit, Nat.testBit_two_pow_sub_one]
  by_cases h1 : a ≤ i
  · by_cases h2 : i < a + d
    · have h3 : i - a < d := by omega
      simp [h1, h2, h3]
    · have h3 : ¬ i - a < d := by omega
      have h4 : v.testBit (i - a) = false := Nat.testBit_lt_two_pow (Nat.lt_of_lt_of_le hv (Nat.pow_le_pow_right (by decide) (by omega)))
      simp only [h1, h2, h3, h4]
      by_cases h5 : i < 64
      · simp [h5]
      · have : n.testBit i = false := Nat.testBit_lt_two_pow (Nat.lt_of_lt_of_le hn (by
          have : (2 : Nat) ^ 64 ≤ 2 ^ i := Nat.pow_le_pow_right (by decide) (by omega)
          have e : (2 : Nat) ^ 64 = 18446744073709551616 := by decide
          omega))
        simp [this]
  · simp only [h1]
    by_cases h5 : i < 64
    · simp [h5]
    · have : n.testBit i = false := Nat.testBit_lt_two_pow (Nat.lt_of_lt_of_le hn (by
        have : (2 : Nat) ^ 64 ≤ 2 ^ i := Nat.pow_le_pow_right (by decide) (by omega)
        have e : (2 : Nat) ^ 64 = 18446744073709551616 := by decide
        omega))
      simp [this]

theorem lt_of_bits {n d : Nat} (h : ∀ i, d ≤ i → n.testBit i = false) : n < 2 ^ d := Nat.lt_pow_two_of_testBit n h

theorem high_false {n i : Nat} (hn : n < 18446744073709551616) (hi : 64 ≤ i) : n.testBit i = false :=
  Nat.testBit_lt_two_pow (Nat.lt_of_lt_of_le hn (by
    have : (2 : Nat) ^ 64 ≤ 2 ^ i := Nat.pow_le_pow_right (by decide) hi
    have e : (2 : Nat) ^ 64 = 18446744073709551616 := by decide
    omega))

theorem withN_lt {n a d v : Nat} (hn : n < 18446744073709551616) (hv : v < 2 ^ d) (h : a + d ≤ 64) : withN n a d v < 18446744073709551616 := by
  have : withN n a d v < 2 ^ 64 := lt_of_bits fun i hi => by
    rw [withN_bit hn hv h, if_neg (by omega)]
    exact high_false hn hi
  simpa using this

/-! ### the code's, in plain numbers -/

theorem wIs_iff (a d : Int) : wIs a d = true ↔ 0 ≤ a ∧ 1 ≤ d ∧ a + d ≤ 64 := by
  unfold wIs
  by_cases h1 : 0 ≤ a
  · by_cases h2 : a < 64
    · have e := wrap_i64 (x := 64 - a) (by omega) (by omega)
      by_cases h3 : 1 ≤ d
      · simp [h1, h2, h3, e]; omega
      · simp [h1, h2, h3]
    · simp [h2]; omega
  · simp [h1]

theorem mask_all : ∀ d : Fin 65, Int.fdiv 18446744073709551615 (2 ^ (64 - d.val)) = ((2 ^ d.val - 1 : Nat) : Int) := by decide +kernel

theorem wMask_eq {d : Nat} (h : d ≤ 64) : wMaskOk (d : Int) = true ∧ wMask (d : Int) = ((2 ^ d - 1 : Nat) : Int) := by
  have e := wrap_i64 (x := 64 - (d : Int)) (by omega) (by omega)
  unfold wMaskOk wMask
  rw [e]
  have h0 : (0 : Int) ≤ 64 - d := by omega
  have hs : shiftN IntKind.u64 (64 - (d : Int)) = 64 - d := by simp only [shiftN, IntKind.bits]; omega
  simp only [h0, hs, decide_true, cond_true, true_and]
  exact mask_all ⟨d, by omega⟩

theorem shift_u64 {a : Nat} (h : a ≤ 64) : shiftN IntKind.u64 (a : Int) = a := by simp only [shiftN, IntKind.bits]; omega

theorem fdiv_pow (n a : Nat) : (n : Int).fdiv (2 ^ a) = ((n / 2 ^ a : Nat) : Int) := by
  rw [Int.fdiv_eq_ediv_of_nonneg _ (by exact_mod_cast Nat.zero_le (2 ^ a))]
  simp

theorem wField_eq {n a d : Nat} (hn : n < 18446744073709551616) (hd : 1 ≤ d) (h : a + d ≤ 64) : wField (n : Int) (a : Int) (d : Int) = (fieldN n a d : Int) ∧ wFieldOk (n : Int) (a : Int) (d : Int) = true := by
  have h1 : wIs (a : Int) (d : Int) = true := (wIs_iff _ _).2 (by omega)
  obtain ⟨h2, h3⟩ := wMask_eq (d := d) (by omega)
  have h4 : (0 : Int) ≤ a := by omega
  unfold wField wFieldOk
  simp only [h1, h2, h3, h4, Bool.not_true, cond_false, decide_true, cond_true, and_true, shift_u64 (show a ≤ 64 by omega), fdiv_pow]
  have h5 : n / 2 ^ a < 18446744073709551616 := Nat.lt_of_le_of_lt (Nat.div_le_self _ _) hn
  have h6 : 2 ^ d - 1 < 18446744073709551616 := by simpa using mask_lt (a := 0) (d := d) (by omega)
  exact u64_and_nat _ _ h5 h6

theorem wField_no {x a d : Int} (h : wIs a d = false) : wField x a d = 0 ∧ wFieldOk x a d = true := by simp [wField, wFieldOk, h]

theorem andNot_mask {v d : Nat} (hv : v < 18446744073709551616) (hd : d ≤ 64) : (bits .andNot .u64 (v : Int) ((2 ^ d - 1 : Nat) : Int) != 0) = decide (2 ^ d ≤ v) := by
  have h6 : 2 ^ d - 1 < 18446744073709551616 := by simpa using mask_lt (a := 0) (d := d) (by omega)
  rw [u64_andNot_nat _ _ hv h6]
  have e : 18446744073709551615 - (2 ^ d - 1) = 2 ^ 64 - ((2 ^ d - 1) + 1) := by
    have : (2 : Nat) ^ 64 = 18446744073709551616 := by decide
    omega
  have hb : ∀ i, (v &&& (18446744073709551615 - (2 ^ d - 1))).testBit i = (v.testBit i && decide (d ≤ i)) := by
    intro i
    rw [Nat.testBit_and, e, Nat.testBit_two_pow_sub_succ (by simpa using h6), Nat.testBit_two_pow_sub_one]
    by_cases h5 : i < 64
    · by_cases h6 : i < d
      · have : ¬ d ≤ i := by omega
        simp [h5, h6, this]
      · have : d ≤ i := by omega
        simp [h5, h6, this]
    · simp [high_false hv (by omega : 64 ≤ i)]
  by_cases hle : 2 ^ d ≤ v
  · have : (v &&& (18446744073709551615 - (2 ^ d - 1))) ≠ 0 := by
      intro h0
      have : v < 2 ^ d := lt_of_bits fun i hi => by
        have := hb i
        rw [h0] at this
        simpa [hi] using this.symm
      omega
    simp only [hle, decide_true, bne_iff_ne, ne_eq]
    omega
  · have : (v &&& (18446744073709551615 - (2 ^ d - 1))) = 0 := by
      apply Nat.eq_of_testBit_eq
      intro i
      rw [hb]
      by_cases hi : d ≤ i
      · have : v.testBit i = false := Nat.testBit_lt_two_pow (Nat.lt_of_lt_of_le (by omega) (Nat.pow_le_pow_right (by decide) hi))
        simp [this]
      · simp [hi]
    simp [hle, this]

theorem wWith_eq {n a d v : Nat} (hn : n < 18446744073709551616) (hd : 1 ≤ d) (h : a + d ≤ 64) (hv : v < 2 ^ d) :
    wWith (n : Int) (a : Int) (d : Int) (v : Int) = (withN n a d v : Int) ∧ wWithE (n : Int) (a : Int) (d : Int) (v : Int) = 0 ∧ wWithOk (n : Int) (a : Int) (d : Int) (v : Int) = true := by
  have h1 : wIs (a : Int) (d : Int) = true := (wIs_iff _ _).2 (by omega)
  obtain ⟨h2, h3⟩ := wMask_eq (d := d) (by omega)
  have h4 : (0 : Int) ≤ a := by omega
  have hv' : v < 18446744073709551616 := by simpa using val_shift_lt (a := 0) hv (by omega)
  have h5 : (bits .andNot .u64 (v : Int) ((2 ^ d - 1 : Nat) : Int) != 0) = false := by rw [andNot_mask hv' (by omega)]; simpa using hv
  unfold wWith wWithE wWithOk
  simp only [h1, h2, h3, h4, h5, Bool.not_true, cond_false, decide_true, cond_true, and_true, shift_u64 (show a ≤ 64 by omega)]
  have e1 : ((2 ^ d - 1 : Nat) : Int) * 2 ^ a = (((2 ^ d - 1) * 2 ^ a : Nat) : Int) := by simp
  have e2 : (v : Int) * 2 ^ a = ((v * 2 ^ a : Nat) : Int) := by simp
  have l1 := mask_lt h
  have l2 := val_shift_lt hv h
  rw [e1, e2, wrap_u64 (by omega) (by omega), wrap_u64 (by omega) (by omega), u64_andNot_nat _ _ hn l1]
  exact bits_or_u64_nat _ _ (Nat.lt_of_le_of_lt Nat.and_le_left hn) l2

theorem wWith_no {x a d v : Int} (h : wIs a d = false) : wWith x a d v = 0 ∧ wWithE x a d v = 1 ∧ wWithOk x a d v = true := by simp [wWith, wWithE, wWithOk, h]

theorem wWith_long {n a d v : Nat} (hd : 1 ≤ d) (h : a + d ≤ 64) (hv : v < 18446744073709551616) (hl : 2 ^ d ≤ v) :
    wWith (n : Int) (a : Int) (d : Int) (v : Int) = 0 ∧ wWithE (n : Int) (a : Int) (d : Int) (v : Int) = 2 ∧ wWithOk (n : Int) (a : Int) (d : Int) (v : Int) = true := by
  have h1 : wIs (a : Int) (d : Int) = true := (wIs_iff _ _).2 (by omega)
  obtain ⟨h2, h3⟩ := wMask_eq (d := d) (by omega)
  have h5 : (bits .andNot .u64 (v : Int) ((2 ^ d - 1 : Nat) : Int) != 0) = true := by rw [andNot_mask hv (by omega)]; simpa using hl
  unfold wWith wWithE wWithOk
  simp only [h1, h2, h3, h5, Bool.not_true, cond_false, cond_true, and_self]

/-! ### bytes -/

def byteAt (x m : Int) : Int := IntKind.u8.wrap (x.fdiv m)
def joinB (x0 x1 x2 x3 x4 x5 x6 x7 : Int) : Int :=
  bits BinOp.or IntKind.u64   (bits BinOp.or IntKind.u64     (bits BinOp.or IntKind.u64       (bits BinOp.or IntKind.u64         (bits BinOp.or IntKind.u64           (bits BinOp.or IntKind.u64             (bits BinOp.or IntKind.u64 (bits BinOp.or IntKind.u64 0 (IntKind.u64.wrap (IntKind.u64.wrap x0 * 1)))               (IntKind.u64.wrap (IntKind.u64.wrap x1 * 256)))             (IntKind.u64.wrap (IntKind.u64.wrap x2 * 65536)))           (IntKind.u64.wrap (IntKind.u64.wrap x3 * 16777216)))         (IntKind.u64.wrap (IntKind.u64.wrap x4 * 4294967296)))       (IntKind.u64.wrap (IntKind.u64.wrap x5 * 1099511627776)))     (IntKind.u64.wrap (IntKind.u64.wrap x6 * 281474976710656)))   (IntKind.u64.wrap (IntKind.u64.wrap x7 * 72057594037927936))

theorem byteAt_eq {x m : Int} (hm : 0 < m) : byteAt x m = x / m % 256 := by
  rw [byteAt, wrap_u8_mod, Int.fdiv_eq_ediv_of_nonneg _ (by omega)]

theorem or_add {p b i : Nat} (hp : p < 2 ^ i) : p ||| b * 2 ^ i = p + b * 2 ^ i := by
  have := Nat.two_pow_add_eq_or_of_lt hp b
  rw [Nat.or_comm, Nat.mul_comm, ← this, Nat.add_comm]

theorem or_step {p b i : Nat} {P B M : Int} (hP : P = p) (hB : B = b) (hM : M = ((2 ^ i : Nat) : Int)) (hp : p < 2 ^ i) (hb : b < 256) (hi : i ≤ 56) :
    bits BinOp.or IntKind.u64 P (IntKind.u64.wrap (IntKind.u64.wrap B * M)) = ((p + b * 2 ^ i : Nat) : Int) ∧ p + b * 2 ^ i < 2 ^ (i + 8) := by
  subst hP; subst hB; subst hM
  have h1 : (2 : Nat) ^ (i + 8) = 256 * 2 ^ i := by rw [Nat.pow_add]; omega
  have h2 : p + b * 2 ^ i < 2 ^ (i + 8) := by
    have : b * 2 ^ i ≤ 255 * 2 ^ i := Nat.mul_le_mul_right _ (by omega)
    omega
  have h3 : (2 : Nat) ^ (i + 8) ≤ 2 ^ 64 := Nat.pow_le_pow_right (by decide) (by omega)
  have h4 : (2 : Nat) ^ 64 = 18446744073709551616 := by decide
  refine ⟨?_, h2⟩
  rw [wrap_u64_nat (by omega), ← Int.natCast_mul, wrap_u64_nat (by omega), bits_or_u64_nat _ _ (by omega) (by omega), or_add hp]

theorem joinB_nat {b0 b1 b2 b3 b4 b5 b6 b7 : Nat} (h0 : b0 < 256) (h1 : b1 < 256) (h2 : b2 < 256) (h3 : b3 < 256) (h4 : b4 < 256) (h5 : b5 < 256) (h6 : b6 < 256) (h7 : b7 < 256) :
    joinB b0 b1 b2 b3 b4 b5 b6 b7 = ((b0 + b1 * 256 + b2 * 65536 + b3 * 16777216 + b4 * 4294967296 + b5 * 1099511627776 + b6 * 281474976710656 + b7 * 72057594037927936 : Nat) : Int) := by
  unfold joinB
  obtain ⟨e0, k0⟩ := or_step (p := 0) (i := 0) (P := 0) (B := b0) (M := 1) rfl rfl rfl (by decide) h0 (by decide)
  obtain ⟨e1, k1⟩ := or_step (i := 8) (B := b1) (M := 256) e0 rfl rfl k0 h1 (by decide)
  obtain ⟨e2, k2⟩ := or_step (i := 16) (B := b2) (M := 65536) e1 rfl rfl k1 h2 (by decide)
  obtain ⟨e3, k3⟩ := or_step (i := 24) (B := b3) (M := 16777216) e2 rfl rfl k2 h3 (by decide)
  obtain ⟨e4, k4⟩ := or_step (i := 32) (B := b4) (M := 4294967296) e3 rfl rfl k3 h4 (by decide)
  obtain ⟨e5, k5⟩ := or_step (i := 40) (B := b5) (M := 1099511627776) e4 rfl rfl k4 h5 (by decide)
  obtain ⟨e6, k6⟩ := or_step (i := 48) (B := b6) (M := 281474976710656) e5 rfl rfl k5 h6 (by decide)
  obtain ⟨e7, _⟩ := or_step (i := 56) (B := b7) (M := 72057594037927936) e6 rfl rfl k6 h7 (by decide)
  rw [e7]
  congr 1
  omega

theorem joinB_int {b0 b1 b2 b3 b4 b5 b6 b7 : Int} (h0 : 0 ≤ b0 ∧ b0 ≤ 255) (h1 : 0 ≤ b1 ∧ b1 ≤ 255) (h2 : 0 ≤ b2 ∧ b2 ≤ 255) (h3 : 0 ≤ b3 ∧ b3 ≤ 255) (h4 : 0 ≤ b4 ∧ b4 ≤ 255) (h5 : 0 ≤ b5 ∧ b5 ≤ 255) (h6 : 0 ≤ b6 ∧ b6 ≤ 255) (h7 : 0 ≤ b7 ∧ b7 ≤ 255) :
    joinB b0 b1 b2 b3 b4 b5 b6 b7 = b0 + b1 * 256 + b2 * 65536 + b3 * 16777216 + b4 * 4294967296 + b5 * 1099511627776 + b6 * 281474976710656 + b7 * 72057594037927936 := by
  have n : ∀ {x : Int}, 0 ≤ x ∧ x ≤ 255 → ∃ m : Nat, x = m ∧ m < 256 := fun {x} h => ⟨x.toNat, by omega, by omega⟩
  obtain ⟨c0, rfl, k0⟩ := n h0
  obtain ⟨c1, rfl, k1⟩ := n h1
  obtain ⟨c2, rfl, k2⟩ := n h2
  obtain ⟨c3, rfl, k3⟩ := n h3
  obtain ⟨c4, rfl, k4⟩ := n h4
  obtain ⟨c5, rfl, k5⟩ := n h5
  obtain ⟨c6, rfl, k6⟩ := n h6
  obtain ⟨c7, rfl, k7⟩ := n h7
  rw [joinB_nat k0 k1 k2 k3 k4 k5 k6 k7]
  simp

theorem byte_lo (x m : Int) : 0 ≤ byteAt x m ∧ byteAt x m ≤ 255 := by
  rw [byteAt, wrap_u8_mod]; omega

theorem join_bytes {x : Int} (h0 : 0 ≤ x) (h1 : x ≤ 18446744073709551615) :
    joinB (byteAt x 1) (byteAt x 256) (byteAt x 65536) (byteAt x 16777216) (byteAt x 4294967296) (byteAt x 1099511627776) (byteAt x 281474976710656) (byteAt x 72057594037927936) = x := by
  rw [joinB_int (byte_lo _ _) (byte_lo _ _) (byte_lo _ _) (byte_lo _ _) (byte_lo _ _) (byte_lo _ _) (byte_lo _ _) (byte_lo _ _)]
  simp only [byteAt_eq (m := 1) (by decide), byteAt_eq (m := 256) (by decide), byteAt_eq (m := 65536) (by decide), byteAt_eq (m := 16777216) (by decide), byteAt_eq (m := 4294967296) (by decide), byteAt_eq (m := 1099511627776) (by decide), byteAt_eq (m := 281474976710656) (by decide), byteAt_eq (m := 72057594037927936) (by decide)]
  omega

theorem byte_join0 {b0 b1 b2 b3 b4 b5 b6 b7 : Int} (h0 : 0 ≤ b0 ∧ b0 ≤ 255) (h1 : 0 ≤ b1 ∧ b1 ≤ 255) (h2 : 0 ≤ b2 ∧ b2 ≤ 255) (h3 : 0 ≤ b3 ∧ b3 ≤ 255) (h4 : 0 ≤ b4 ∧ b4 ≤ 255) (h5 : 0 ≤ b5 ∧ b5 ≤ 255) (h6 : 0 ≤ b6 ∧ b6 ≤ 255) (h7 : 0 ≤ b7 ∧ b7 ≤ 255) : byteAt (joinB b0 b1 b2 b3 b4 b5 b6 b7) 1 = b0 := by
  rw [joinB_int h0 h1 h2 h3 h4 h5 h6 h7, byteAt_eq (by decide)]
  omega

theorem byte_join1 {b0 b1 b2 b3 b4 b5 b6 b7 : Int} (h0 : 0 ≤ b0 ∧ b0 ≤ 255) (h1 : 0 ≤ b1 ∧ b1 ≤ 255) (h2 : 0 ≤ b2 ∧ b2 ≤ 255) (h3 : 0 ≤ b3 ∧ b3 ≤ 255) (h4 : 0 ≤ b4 ∧ b4 ≤ 255) (h5 : 0 ≤ b5 ∧ b5 ≤ 255) (h6 : 0 ≤ b6 ∧ b6 ≤ 255) (h7 : 0 ≤ b7 ∧ b7 ≤ 255) : byteAt (joinB b0 b1 b2 b3 b4 b5 b6 b7) 256 = b1 := by
  rw [joinB_int h0 h1 h2 h3 h4 h5 h6 h7, byteAt_eq (by decide)]
  omega

theorem byte_join2 {b0 b1 b2 b3 b4 b5 b6 b7 : Int} (h0 : 0 ≤ b0 ∧ b0 ≤ 255) (h1 : 0 ≤ b1 ∧ b1 ≤ 255) (h2 : 0 ≤ b2 ∧ b2 ≤ 255) (h3 : 0 ≤ b3 ∧ b3 ≤ 255) (h4 : 0 ≤ b4 ∧ b4 ≤ 255) (h5 : 0 ≤ b5 ∧ b5 ≤ 255) (h6 : 0 ≤ b6 ∧ b6 ≤ 255) (h7 : 0 ≤ b7 ∧ b7 ≤ 255) : byteAt (joinB b0 b1 b2 b3 b4 b5 b6 b7) 65536 = b2 := by
  rw [joinB_int h0 h1 h2 h3 h4 h5 h6 h7, byteAt_eq (by decide)]
  omega

theorem byte_join3 {b0 b1 b2 b3 b4 b5 b6 b7 : Int} (h0 : 0 ≤ b0 ∧ b0 ≤ 255) (h1 : 0 ≤ b1 ∧ b1 ≤ 255) (h2 : 0 ≤ b2 ∧ b2 ≤ 255) (h3 : 0 ≤ b3 ∧ b3 ≤ 255) (h4 : 0 ≤ b4 ∧ b4 ≤ 255) (h5 : 0 ≤ b5 ∧ b5 ≤ 255) (h6 : 0 ≤ b6 ∧ b6 ≤ 255) (h7 : 0 ≤ b7 ∧ b7 ≤ 255) : byteAt (joinB b0 b1 b2 b3 b4 b5 b6 b7) 16777216 = b3 := by
  rw [joinB_int h0 h1 h2 h3 h4 h5 h6 h7, byteAt_eq (by decide)]
  omega

theorem byte_join4 {b0 b1 b2 b3 b4 b5 b6 b7 : Int} (h0 : 0 ≤ b0 ∧ b0 ≤ 255) (h1 : 0 ≤ b1 ∧ b1 ≤ 255) (h2 : 0 ≤ b2 ∧ b2 ≤ 255) (h3 : 0 ≤ b3 ∧ b3 ≤ 255) (h4 : 0 ≤ b4 ∧ b4 ≤ 255) (h5 : 0 ≤ b5 ∧ b5 ≤ 255) (h6 : 0 ≤ b6 ∧ b6 ≤ 255) (h7 : 0 ≤ b7 ∧ b7 ≤ 255) : byteAt (joinB b0 b1 b2 b3 b4 b5 b6 b7) 4294967296 = b4 := by
  rw [joinB_int h0 h1 h2 h3 h4 h5 h6 h7, byteAt_eq (by decide)]
  omega

theorem byte_join5 {b0 b1 b2 b3 b4 b5 b6 b7 : Int} (h0 : 0 ≤ b0 ∧ b0 ≤ 255) (h1 : 0 ≤ b1 ∧ b1 ≤ 255) (h2 : 0 ≤ b2 ∧ b2 ≤ 255) (h3 : 0 ≤ b3 ∧ b3 ≤ 255) (h4 : 0 ≤ b4 ∧ b4 ≤ 255) (h5 : 0 ≤ b5 ∧ b5 ≤ 255) (h6 : 0 ≤ b6 ∧ b6 ≤ 255) (h7 : 0 ≤ b7 ∧ b7 ≤ 255) : byteAt (joinB b0 b1 b2 b3 b4 b5 b6 b7) 1099511627776 = b5 := by
  rw [joinB_int h0 h1 h2 h3 h4 h5 h6 h7, byteAt_eq (by decide)]
  omega

theorem byte_join6 {b0 b1 b2 b3 b4 b5 b6 b7 : Int} (h0 : 0 ≤ b0 ∧ b0 ≤ 255) (h1 : 0 ≤ b1 ∧ b1 ≤ 255) (h2 : 0 ≤ b2 ∧ b2 ≤ 255) (h3 : 0 ≤ b3 ∧ b3 ≤ 255) (h4 : 0 ≤ b4 ∧ b4 ≤ 255) (h5 : 0 ≤ b5 ∧ b5 ≤ 255) (h6 : 0 ≤ b6 ∧ b6 ≤ 255) (h7 : 0 ≤ b7 ∧ b7 ≤ 255) : byteAt (joinB b0 b1 b2 b3 b4 b5 b6 b7) 281474976710656 = b6 := by
  rw [joinB_int h0 h1 h2 h3 h4 h5 h6 h7, byteAt_eq (by decide)]
  omega

theorem byte_join7 {b0 b1 b2 b3 b4 b5 b6 b7 : Int} (h0 : 0 ≤ b0 ∧ b0 ≤ 255) (h1 : 0 ≤ b1 ∧ b1 ≤ 255) (h2 : 0 ≤ b2 ∧ b2 ≤ 255) (h3 : 0 ≤ b3 ∧ b3 ≤ 255) (h4 : 0 ≤ b4 ∧ b4 ≤ 255) (h5 : 0 ≤ b5 ∧ b5 ≤ 255) (h6 : 0 ≤ b6 ∧ b6 ≤ 255) (h7 : 0 ≤ b7 ∧ b7 ≤ 255) : byteAt (joinB b0 b1 b2 b3 b4 b5 b6 b7) 72057594037927936 = b7 := by
  rw [joinB_int h0 h1 h2 h3 h4 h5 h6 h7, byteAt_eq (by decide)]
  omega
end Go.AM
end

/-
  The abstract machine, part 17: what of the memory a function has to do with: shapes and what stands in them.
-/
section
namespace Go.AM

/-- What stands in a shape: numbers, truth values, places, rows. -/
inductive At where
  | i (x : Int)
  | b (x : Bool)
  | n (x : Nat)
  | r (n : Nat) (g : Nat → Nat → Int)
  | q (n : Nat) (g : Nat → Nat → Int) (c0 wd : Nat) (h : Nat → Nat → Int)

def aI (l : List At) (i : Nat) : Int := match l[i]? with | some (.i x) => x | _ => 0
def aB (l : List At) (i : Nat) : Bool := match l[i]? with | some (.b x) => x | _ => false
def aN (l : List At) (i : Nat) : Nat := match l[i]? with | some (.n x) => x | _ => 0
def aRn (l : List At) (i : Nat) : Nat := match l[i]? with | some (.r n _) => n | some (.q n _ _ _ _) => n | _ => 0
def aRg (l : List At) (i : Nat) : Nat → Nat → Int := match l[i]? with | some (.r _ g) => g | some (.q _ g _ _ _) => g | _ => fun _ _ => 0
/-- The members of rows: where the slice's cell and how wide a member's row is, is told anew. -/
def aMh (l : List At) (i c0 wd : Nat) : Nat → Nat → Int :=
  match l[i]? with
  | some (.q _ _ c0' wd' h) => match Nat.beq c0 c0', Nat.beq wd wd' with
    | true, true => h
    | _, _ => fun _ _ => 0
  | _ => fun _ _ => 0

/-- Shapes of one cell. 'sw': a slice over all rows of a block; 'sq': over some; 'vw': a slice that is laid out as a block of its own; 'opq': not looked at. 'ms': a part of a member; 'vz': as 'vw', not nil. -/
inductive Sh where
  | k (sk : SK)
  | p (id o : Nat)
  | pr (id wd c : Nat)
  | sw (id wd : Nat)
  | sq (id wd : Nat)
  | vw (id wd : Nat)
  | opq (id : Nat)
  | ms (id f wd : Nat)
  | vz (id wd : Nat)
  | pnil
  | slnil
  | fnil
  | fn (f : FuncId) (caps : List (Nat × Nat))

/-- 'nrows': rows with members, that lie where 'f' says; 'bel': those of the first rows alone. -/
inductive BSh where
  | no
  | cells (l : List Sh)
  | roc (l : List Sh)
  | rows (ks : List SK) (own : Bool)
  | nrows (ks : List SK) (c0 : Nat) (ms : List SK) (f : Nat) (bel own : Bool)

/-- A block of which nothing is told. -/
def BSh.not : BSh → Bool
  | .no => true
  | _ => false

def BSh.mut : BSh → Bool
  | .cells _ => true
  | .rows _ own => own
  | .nrows _ _ _ _ _ own => own
  | _ => false

inductive TSh where
  | v (agg : Bool) (l : List Sh)
  | tup (l : List (Bool × List Sh))
  | any

structure FSh where
  vals : List TSh
  hp : List BSh

/-! ### what is made of a shape and what stands in it -/

def Sh.w : Sh → Nat
  | .k _ => 1
  | .pr .. => 1
  | .sq .. => 2
  | .ms .. => 3
  | _ => 0

def shsW : List Sh → Nat
  | [] => 0
  | s :: r => s.w + shsW r

def avsW : List (Bool × List Sh) → Nat
  | [] => 0
  | s :: r => shsW s.2 + avsW r

def TSh.w : TSh → Nat
  | .v _ l => shsW l
  | .tup l => avsW l
  | .any => 0

def tshsW : List TSh → Nat
  | [] => 0
  | s :: r => s.w + tshsW r

def BSh.w : BSh → Nat
  | .no => 0
  | .cells l => shsW l
  | .roc l => shsW l
  | .rows _ _ => 1
  | .nrows _ _ _ _ false _ => 1
  | .nrows _ _ _ _ true _ => 2

def mkSh (ns : List Nat) (l : List At) (i : Nat) : Sh → AS
  | .k .b => .b (aB l i)
  | .k (.n k) => .n k (aI l i)
  | .p id o => .p id o
  | .pr id wd c => .pr id wd (aN l i) c
  | .sw id wd => .slw id wd (ns.getD id 0)
  | .sq id wd => .slq id wd (aN l i) (aN l (i + 1))
  | .vw id wd => .slq id wd 0 (ns.getD id 0)
  | .opq id => .opq id
  | .ms id f wd => .mems id f wd (aN l i) (aN l (i + 1)) (aN l (i + 2))
  | .vz id wd => .slz id wd 0 (ns.getD id 0)
  | .pnil => .pnil
  | .slnil => .slnil
  | .fnil => .fnil
  | .fn f caps => .fn f caps

def mkShs (ns : List Nat) (l : List At) : Nat → List Sh → List AS
  | _, [] => []
  | i, s :: r => mkSh ns l i s :: mkShs ns l (i + s.w) r

def mkAVS (ns : List Nat) (l : List At) (i : Nat) : Bool × List Sh → AV
  | (true, r) => .agg (mkShs ns l i r)
  | (false, s :: _) => .s (mkSh ns l i s)
  | (false, []) => .agg []

def mkAVSs (ns : List Nat) (l : List At) : Nat → List (Bool × List Sh) → List AV
  | _, [] => []
  | i, s :: r => mkAVS ns l i s :: mkAVSs ns l (i + shsW s.2) r

def mkTV (ns : List Nat) (l : List At) (i : Nat) : TSh → TV
  | .v b r => .v (mkAVS ns l i (b, r))
  | .tup r => .tup (mkAVSs ns l i r)
  | .any => .any

def mkTVs (ns : List Nat) (l : List At) : Nat → List TSh → List TV
  | _, [] => []
  | i, s :: r => mkTV ns l i s :: mkTVs ns l (i + s.w) r

def mkNs (l : List At) : Nat → List BSh → List Nat
  | _, [] => []
  | i, s :: r => (match s with | .rows _ _ => aRn l i | .nrows _ _ _ _ false _ => aRn l i | .nrows _ _ _ _ true _ => aRn l (i + 1) | _ => 0) :: mkNs l (i + s.w) r

def mkB (ns : List Nat) (l : List At) (i : Nat) : BSh → Option Blk
  | .no => none
  | .cells r => some (.cells (mkShs ns l i r))
  | .roc r => some (.roc (mkShs ns l i r))
  | .rows ks own => some (.rows ks (aRn l i) (aRg l i) own)
  | .nrows ks c0 ms f false own => some (.nrows ks c0 ms (aRn l i) (aRg l i) (aMh l i c0 ms.length) f .all own)
  | .nrows ks c0 ms f true own => some (.nrows ks c0 ms (aRn l (i + 1)) (aRg l (i + 1)) (aMh l (i + 1) c0 ms.length) f (.below (aN l i)) own)

def mkBs (ns : List Nat) (l : List At) : Nat → List BSh → AH
  | _, [] => []
  | i, s :: r => mkB ns l i s :: mkBs ns l (i + s.w) r

def mkV (sh : FSh) (l : List At) : List TV := mkTVs (mkNs l (tshsW sh.vals) sh.hp) l 0 sh.vals
def mkH (sh : FSh) (l : List At) : AH := mkBs (mkNs l (tshsW sh.vals) sh.hp) l (tshsW sh.vals) sh.hp

/-! ### from a state to a shape: which block is which, and what stands in it -/

inductive Src where
  | blk (id : Nat)
  | view (id wd i len : Nat)
  | cview (id wd o len : Nat)
  | mview (id F wd i lo len : Nat)
  | fresh
  | opq (a : AS)

def Src.cid : Src → Option Nat
  | .blk c => some c
  | .view c _ _ _ => some c
  | .cview c _ _ _ => some c
  | .mview c _ _ _ _ _ => some c
  | _ => none

def bindId (σ : List Src) (id cid : Nat) : Option (List Src) :=
  match σ[id]? with
  | some (.blk c) => match Nat.beq c cid with
    | true => some σ
    | false => none
  | some _ => none
  | none => match Nat.beq id σ.length with
    | true => some (σ ++ [.blk cid])
    | false => none

def bindCaps : List Src → List (Nat × Nat) → List (Nat × Nat) → Option (List Src)
  | σ, [], [] => some σ
  | σ, (id, o) :: r, (cid, o') :: r' => match Nat.beq o o' with
    | true => match bindId σ id cid with
      | some σ' => bindCaps σ' r r'
      | none => none
    | false => none
  | _, _, _ => none

def isRows (bs : List BSh) (id : Nat) : Bool :=
  match bs[id]? with
  | some (.rows _ _) => true
  | some (.nrows ..) => true
  | _ => false

def opqOk : AS → Bool
  | .b _ | .n _ _ | .str _ | .opq _ | .slk .. | .sld .. | .slz .. | .mem .. | .mems .. | .mpx .. => false
  | _ => true

def takeS (bs : List BSh) (N : Nat) (σ : List Src) : Sh → AS → Option (List Src × List At)
  | .k .b, .b x => some (σ, [.b x])
  | .k (.n k), .n k' x => if k = k' then some (σ, [.i x]) else none
  | .p id o, .p cid o' => match Nat.beq o o' with
    | true => (bindId σ id cid).map fun σ' => (σ', [])
    | false => none
  | .pr id wd c, .pr cid wd' i c' => match Nat.beq wd wd', Nat.beq c c' with
    | true, true => (bindId σ id cid).map fun σ' => (σ', [.n i])
    | _, _ => none
  | .sw id wd, .slw cid wd' _ => match Nat.beq wd wd', isRows bs id with
    | true, true => (bindId σ id cid).map fun σ' => (σ', [])
    | _, _ => none
  | .sw id wd, .slk cid wd' _ _ => match Nat.beq wd wd', isRows bs id with
    | true, true => (bindId σ id cid).map fun σ' => (σ', [])
    | _, _ => none
  | .sw id _, .slnil => match Nat.beq id σ.length, isRows bs id with
    | true, true => some (σ ++ [.fresh], [])
    | _, _ => none
  | .sq id wd, a => match viewT (.v (.s a)) with
    | some (cid, wd', i, len) => match Nat.beq wd wd' with
      | true => match Nat.blt cid N with
        | true => (bindId σ id cid).map fun σ' => (σ', [.n i, .n len])
        | false => none
      | false => none
    | none => none
  | .vw id wd, a => match Nat.beq id σ.length, isRows bs id with
    | true, true => match viewT (.v (.s a)) with
      | some (cid, wd', i, len) => match Nat.beq wd wd' with
        | true => some (σ ++ [.view cid wd i len], [])
        | false => none
      | none => match a with
        | .sl cid wd' o len => match Nat.beq wd wd' with
          | true => some (σ ++ [.cview cid wd o len], [])
          | false => none
        | .mem cid F wd' i len => match Nat.beq wd wd' with
          | true => some (σ ++ [.mview cid F wd i 0 len], [])
          | false => none
        | .mems cid F wd' i lo len => match Nat.beq wd wd' with
          | true => some (σ ++ [.mview cid F wd i lo len], [])
          | false => none
        | .slnil => some (σ ++ [.fresh], [])
        | _ => none
    | _, _ => none
  | .ms id f wd, a => match viewM (.v (.s a)) with
    | some (cid, cF, wd', i, lo, len) => match Nat.beq wd wd', Nat.blt cid N, Nat.blt cF N with
      | true, true, true => match bindId σ id cid with
        | some σ1 => (bindId σ1 f cF).map fun σ2 => (σ2, [.n i, .n lo, .n len])
        | none => none
      | _, _, _ => none
    | none => none
  | .opq id, .opq cid => (bindId σ id cid).map fun σ' => (σ', [])
  | .opq id, a => match Nat.beq id σ.length, opqOk a with
    | true, true => some (σ ++ [.opq a], [])
    | _, _ => none
  | .pnil, .pnil => some (σ, [])
  | .slnil, .slnil => some (σ, [])
  | .fnil, .fnil => some (σ, [])
  | .fn f caps, .fn f' caps' => match Nat.beq f f' with
    | true => (bindCaps σ caps caps').map fun σ' => (σ', [])
    | false => none
  | _, _ => none

def takeL (bs : List BSh) (N : Nat) : List Src → List Sh → List AS → Option (List Src × List At)
  | σ, [], [] => some (σ, [])
  | σ, s :: r, a :: as => match takeS bs N σ s a with
    | some (σ1, x) => match takeL bs N σ1 r as with
      | some (σ2, y) => some (σ2, x ++ y)
      | none => none
    | none => none
  | _, _, _ => none

def takeA (bs : List BSh) (N : Nat) (σ : List Src) : Bool × List Sh → AV → Option (List Src × List At)
  | (true, r), .agg as => takeL bs N σ r as
  | (false, [s]), .s a => takeS bs N σ s a
  | _, _ => none

def takeAs (bs : List BSh) (N : Nat) : List Src → List (Bool × List Sh) → List AV → Option (List Src × List At)
  | σ, [], [] => some (σ, [])
  | σ, s :: r, a :: as => match takeA bs N σ s a with
    | some (σ1, x) => match takeAs bs N σ1 r as with
      | some (σ2, y) => some (σ2, x ++ y)
      | none => none
    | none => none
  | _, _, _ => none

def takeT (bs : List BSh) (N : Nat) (σ : List Src) : TSh → TV → Option (List Src × List At)
  | .v b r, .v a => takeA bs N σ (b, r) a
  | .v b r, .k c => takeA bs N σ (b, r) (.s (.b c))
  | .tup r, .tup as => takeAs bs N σ r as
  | .any, _ => some (σ, [])
  | _, _ => none

def takeTs (bs : List BSh) (N : Nat) : List Src → List TSh → List TV → Option (List Src × List At)
  | σ, [], [] => some (σ, [])
  | σ, s :: r, a :: as => match takeT bs N σ s a with
    | some (σ1, x) => match takeTs bs N σ1 r as with
      | some (σ2, y) => some (σ2, x ++ y)
      | none => none
    | none => none
  | _, _, _ => none

def takeB (H : AH) (bs : List BSh) (σ : List Src) : Src → BSh → Option (List Src × List At)
  | _, .no => some (σ, [])
  | .blk c, .cells r => match blk H c with
    | some (.cells as) => takeL bs H.length σ r as
    | _ => none
  | .blk c, .roc r => match blkC H c with
    | some (.cells as) => takeL bs H.length σ r as
    | _ => none
  | .blk c, .rows ks own => match blk H c with
    | some (.rows ks' n g own') => if ks = ks' ∧ (own = true → own' = true) then some (σ, [.r n g]) else none
    | _ => none
  | .view c wd i len, .rows ks false => match blk H c with
    | some (.rows ks' _ g _) => if ks = ks' ∧ wd = ks.length then some (σ, [.r len fun j cc => g (i + j) cc]) else none
    | _ => none
  | .cview c wd o len, .rows ks false => match blkC H c with
    | some (.cells l) => if wd = ks.length then match rowsOf ks (l.drop o) len with
        | some rs => some (σ, [.r len (rowsF rs)])
        | none => none
      else none
    | _ => none
  | .mview c F wd i lo len, .rows ks false => match blk H c with
    | some (.nrows _ _ ms _ _ h F' ow _) => if ks = ms ∧ wd = ks.length ∧ F = F' ∧ isAll ow = true then some (σ, [.r len fun j cc => h i ((lo + j) * wd + cc)]) else none
    | _ => none
  | .fresh, .rows _ _ => some (σ, [.r 0 fun _ _ => 0])
  | .blk c, .nrows ks c0 ms f bel own => match blk H c with
    | some (.nrows ks' c0' ms' n g h F ow own') => if ks = ks' ∧ c0 = c0' ∧ ms = ms' ∧ (own = true → own' = true) then
        match bel, ow with
        | false, .all => (bindId σ f F).map fun σ' => (σ', [.q n g c0 ms.length h])
        | true, .below k => (bindId σ f F).map fun σ' => (σ', [.n k, .q n g c0 ms.length h])
        | _, _ => none
      else none
    | _ => none
  | _, _ => none

def takeBs (H : AH) (bs : List BSh) : (j : Nat) → List BSh → List Src → Option (List Src × List At)
  | _, [], σ => some (σ, [])
  | j, b :: r, σ => match σ[j]? with
    | some s => match takeB H bs σ s b with
      | some (σ1, x) => match takeBs H bs (j + 1) r σ1 with
        | some (σ2, y) => some (σ2, x ++ y)
        | none => none
      | none => none
    | none => none

/-- No block twice, but where it is only read, or nothing is told of it. -/
def apartS (s : Src) (b : BSh) : List Src → List BSh → Bool
  | s' :: r, b' :: r' => match (b.mut || b'.mut) && !b.not && !b'.not, s.cid, s'.cid with
    | true, some c, some c' => match Nat.beq c c' with
      | true => false
      | false => apartS s b r r'
    | _, _, _ => apartS s b r r'
  | _, _ => true

def apartSs : List Src → List BSh → Bool
  | s :: r, b :: r' => match apartS s b r r' with
    | true => apartSs r r'
    | false => false
  | _, _ => true

def firstK : Nat → Nat → List Src
  | _, 0 => []
  | i, n + 1 => .blk i :: firstK (i + 1) n

def takeF (k : Nat) (sh : FSh) (ts : List TV) (H : AH) : Option (List Src × List At) :=
  match takeTs sh.hp H.length (firstK 0 k) sh.vals ts with
  | some (σ1, x) => match takeBs H sh.hp 0 sh.hp σ1 with
    | some (σ2, y) => match Nat.beq σ2.length sh.hp.length, apartSs σ2 sh.hp with
      | true, true => some (σ2, x ++ y)
      | _, _ => none
    | none => none
  | none => none
end Go.AM
end

/-
  The abstract machine, part 18: what is taken out of a state stands for what the state stands for.
-/
section
namespace Go.AM

def SrcOK (φ : Phi) : Src → Loc → Prop
  | .blk c, L => φ[c]? = some L
  | .view c wd i len, L => (len = 0 ∧ L.sz = 0 ∧ L.n = 0) ∨ ∃ L1, φ[c]? = some L1 ∧ i + len ≤ L1.n ∧ L = ⟨L1.b, L1.base + i * wd, len * wd, len, .nil⟩
  | .cview c wd o len, L => (len = 0 ∧ L.sz = 0 ∧ L.n = 0) ∨ ∃ L1, φ[c]? = some L1 ∧ L = ⟨L1.b, L1.base + o, len * wd, len, .nil⟩
  | .mview c F wd i lo len, L => (len = 0 ∧ L.sz = 0 ∧ L.n = 0) ∨ ∃ L1 LF b o len0 cap0, φ[c]? = some L1 ∧ φ[F]? = some LF ∧ i < L1.n ∧ LF.x.mem i = .slice (some ⟨b, o, none⟩) len0 cap0 ∧ lo + len ≤ len0 ∧ L = ⟨b, o + lo * wd, len * wd, len, .nil⟩
  | .fresh, L => L.sz = 0 ∧ L.n = 0
  | .opq a, L => relS φ a L.x.val

def shRel (bs : List BSh) (φ : Phi) : Sh → List At → Value → Prop
  | .k .b, [.b x], v => v = .bool x
  | .k (.n k), [.i x], v => v = .int k x
  | .p id o, [], v => relS φ (.p id o) v
  | .pr id wd c, [.n i], v => relS φ (.pr id wd i c) v
  | .sw id wd, [], v => ∃ L, φ[id]? = some L ∧ relS φ (.slw id wd L.n) v ∧ isRows bs id = true
  | .sq id wd, [.n i, .n len], v => relS φ (.slq id wd i len) v
  | .vw id wd, [], v => ∃ L, φ[id]? = some L ∧ relS φ (.slq id wd 0 L.n) v ∧ isRows bs id = true
  | .opq id, [], v => relS φ (.opq id) v
  | .ms id f wd, [.n i, .n lo, .n len], v => relS φ (.mems id f wd i lo len) v
  | .vz id wd, [], v => ∃ L, φ[id]? = some L ∧ relS φ (.slz id wd 0 L.n) v ∧ isRows bs id = true
  | .pnil, [], v => v = .pointer none
  | .slnil, [], v => v = .slice none 0 0
  | .fnil, [], v => v = .nilFunc
  | .fn f caps, [], v => relS φ (.fn f caps) v
  | _, _, _ => False

def shRels (bs : List BSh) (φ : Phi) : List Sh → List At → List Value → Prop
  | [], as, vs => as = [] ∧ vs = []
  | s :: r, as, vs => ∃ a1 a2 v vs', as = a1 ++ a2 ∧ vs = v :: vs' ∧ shRel bs φ s a1 v ∧ shRels bs φ r a2 vs'

theorem shRel.mono {bs : List BSh} {φ : Phi} (ψ : Phi) {s : Sh} {as : List At} {v : Value} (h : shRel bs φ s as v) : shRel bs (φ ++ ψ) s as v := by
  unfold shRel at h ⊢
  split at h
  · exact h
  · exact h
  · exact relS.mono ψ h
  · exact relS.mono ψ h
  · obtain ⟨L, h1, h2, h3⟩ := h; exact ⟨L, get_prefix h1, relS.mono ψ h2, h3⟩
  · exact relS.mono ψ h
  · obtain ⟨L, h1, h2, h3⟩ := h; exact ⟨L, get_prefix h1, relS.mono ψ h2, h3⟩
  · exact relS.mono ψ h
  · exact relS.mono ψ h
  · obtain ⟨L, h1, h2, h3⟩ := h; exact ⟨L, get_prefix h1, relS.mono ψ h2, h3⟩
  · exact h
  · exact h
  · exact h
  · exact relS.mono ψ h
  · exact h.elim

theorem shRels.mono {bs : List BSh} {φ : Phi} (ψ : Phi) : ∀ {s : List Sh} {as : List At} {vs : List Value}, shRels bs φ s as vs → shRels bs (φ ++ ψ) s as vs
  | [], _, _, h => h
  | _ :: _, _, _, ⟨a1, a2, v, vs', h1, h2, h3, h4⟩ => ⟨a1, a2, v, vs', h1, h2, h3.mono ψ, shRels.mono ψ h4⟩

theorem All2.get_of {α β : Type} {R : α → β → Prop} {l : List α} {m : List β} (h : All2 R l m) {i : Nat} {a : α} {b : β} (ha : l[i]? = some a) (hb : m[i]? = some b) : R a b := by
  obtain ⟨b', h1, h2⟩ := h.get ha
  rw [hb] at h1; cases h1; exact h2

section
variable {φ : Phi} {H : AH} {bs : List BSh}

/-- One more source. -/
theorem push_src {σ : List Src} {φσ : Phi} (h : All2 (SrcOK φ) σ φσ) {s : Src} {L : Loc} (hs : SrcOK φ s L) : All2 (SrcOK φ) (σ ++ [s]) (φσ ++ [L]) ∧ (φσ ++ [L])[σ.length]? = some L := by
  refine ⟨h.append ⟨hs, trivial⟩, ?_⟩
  rw [h.length_eq]; simp

theorem bindId_sound {σ σ' : List Src} {φσ : Phi} {id cid : Nat} {L : Loc} (h : bindId σ id cid = some σ') (hσ : All2 (SrcOK φ) σ φσ) (hL : φ[cid]? = some L) :
    ∃ ψ, All2 (SrcOK φ) σ' (φσ ++ ψ) ∧ (φσ ++ ψ)[id]? = some L ∧ ∃ τ, σ' = σ ++ τ := by
  unfold bindId at h
  split at h
  · rename_i c hc
    split at h
    · rename_i hb
      obtain rfl := Option.some.inj h
      have := Nat.eq_of_beq_eq_true hb
      subst this
      obtain ⟨L', h1, h2⟩ := hσ.get hc
      simp only [SrcOK] at h2
      rw [hL] at h2; cases h2
      exact ⟨[], by simpa using hσ, by simpa using h1, [], by simp⟩
    · cases h
  · cases h
  · split at h
    · rename_i hb
      obtain rfl := Option.some.inj h
      have := Nat.eq_of_beq_eq_true hb
      subst this
      obtain ⟨h1, h2⟩ := push_src (s := .blk cid) hσ hL
      exact ⟨[L], h1, h2, _, rfl⟩
    · cases h

theorem bindCaps_sound : ∀ {caps caps' : List (Nat × Nat)} {σ σ' : List Src} {φσ : Phi} {cs : List Value}, bindCaps σ caps caps' = some σ' → All2 (SrcOK φ) σ φσ →
    All2 (fun (c : Nat × Nat) u => ∃ L, φ[c.1]? = some L ∧ u = .pointer (some ⟨L.b, L.base + c.2, none⟩)) caps' cs →
    ∃ ψ, All2 (SrcOK φ) σ' (φσ ++ ψ) ∧ All2 (fun (c : Nat × Nat) u => ∃ L, (φσ ++ ψ)[c.1]? = some L ∧ u = .pointer (some ⟨L.b, L.base + c.2, none⟩)) caps cs ∧ ∃ τ, σ' = σ ++ τ
  | [], [], σ, σ', φσ, cs, h, hσ, hc => by
    simp only [bindCaps, Option.some.injEq] at h
    subst h
    cases cs with
    | nil => exact ⟨[], by simpa using hσ, trivial, [], by simp⟩
    | cons _ _ => exact hc.elim
  | (id, o) :: r, (cid, o') :: r', σ, σ', φσ, cs, h, hσ, hc => by
    simp only [bindCaps] at h
    split at h
    · rename_i hb
      have := Nat.eq_of_beq_eq_true hb
      subst this
      split at h
      · rename_i σ1 h1
        cases cs with
        | nil => exact hc.elim
        | cons c cs =>
          obtain ⟨⟨L, hL, rfl⟩, hcs⟩ := hc
          obtain ⟨ψ, e1, e2, τ, e3⟩ := bindId_sound h1 hσ hL
          obtain ⟨ψ', f1, f2, τ', f3⟩ := bindCaps_sound h e1 hcs
          refine ⟨ψ ++ ψ', by rw [← List.append_assoc]; exact f1, ?_, τ ++ τ', by rw [f3, e3]; simp⟩
          rw [← List.append_assoc]
          exact ⟨⟨L, get_prefix e2, rfl⟩, f2⟩
      · cases h
    · cases h
  | [], _ :: _, _, _, _, _, h, _, _ => by simp [bindCaps] at h
  | _ :: _, [], _, _, _, _, h, _, _ => by simp [bindCaps] at h

theorem opq_fresh {a : AS} {v : Value} (ha : opqOk a = true) (h : relS φ a v) : v.oneCell' = true ∧ (∀ k n, v ≠ .int k n) ∧ ∀ s, v ≠ .string s := by
  refine ⟨relS.oneCell h, fun k n => ?_, fun s => ?_⟩
  · cases a <;> simp [opqOk] at ha <;> simp only [relS] at h
    case p => obtain ⟨_, _, rfl⟩ := h; simp
    case pr => obtain ⟨_, _, _, rfl⟩ := h; simp
    case px => obtain ⟨_, _, _, _, rfl⟩ := h; simp
    case pnil => subst h; simp
    case sl => rcases h with ⟨_, _, rfl⟩ | ⟨_, _, _, _, rfl⟩ <;> simp
    case slr => rcases h with ⟨_, _, _, rfl⟩ | ⟨_, _, _, _, _, _, _, rfl⟩ <;> simp
    case slc => rcases h with ⟨_, _, rfl⟩ | ⟨_, _, _, _, rfl⟩ <;> simp
    case slq => rcases h with ⟨_, _, rfl⟩ | ⟨_, _, _, _, _, rfl⟩ <;> simp
    case slw => rcases h with ⟨_, _, _, ⟨_, _, rfl⟩ | ⟨_, _, _, rfl⟩⟩ <;> simp
    case slnil => subst h; simp
    case fn => obtain ⟨_, rfl, _⟩ := h; simp
    case fnil => subst h; simp
  · cases a <;> simp [opqOk] at ha <;> simp only [relS] at h
    case p => obtain ⟨_, _, rfl⟩ := h; simp
    case pr => obtain ⟨_, _, _, rfl⟩ := h; simp
    case px => obtain ⟨_, _, _, _, rfl⟩ := h; simp
    case pnil => subst h; simp
    case sl => rcases h with ⟨_, _, rfl⟩ | ⟨_, _, _, _, rfl⟩ <;> simp
    case slr => rcases h with ⟨_, _, _, rfl⟩ | ⟨_, _, _, _, _, _, _, rfl⟩ <;> simp
    case slc => rcases h with ⟨_, _, rfl⟩ | ⟨_, _, _, _, rfl⟩ <;> simp
    case slq => rcases h with ⟨_, _, rfl⟩ | ⟨_, _, _, _, _, rfl⟩ <;> simp
    case slw => rcases h with ⟨_, _, _, ⟨_, _, rfl⟩ | ⟨_, _, _, rfl⟩⟩ <;> simp
    case slnil => subst h; simp
    case fn => obtain ⟨_, rfl, _⟩ := h; simp
    case fnil => subst h; simp

/-- What a taken part comes to. -/
def Taken (φ : Phi) (σ σ' : List Src) (φσ : Phi) (R : Phi → Prop) : Prop := ∃ ψ, All2 (SrcOK φ) σ' (φσ ++ ψ) ∧ R (φσ ++ ψ) ∧ ∃ τ, σ' = σ ++ τ

theorem taken_bind {σ σ' : List Src} {φσ : Phi} {id cid : Nat} {as as' : List At} {L : Loc} {R : Phi → Prop} (h : (bindId σ id cid).map (fun σ' => (σ', as')) = some (σ', as)) (hσ : All2 (SrcOK φ) σ φσ) (hL : φ[cid]? = some L)
    (hR : ∀ φ1, φ1[id]? = some L → as = as' → R φ1) : Taken φ σ σ' φσ R := by
  obtain ⟨σ1, h1, h2⟩ := Option.map_eq_some_iff.1 h
  simp only [Prod.mk.injEq] at h2
  obtain ⟨rfl, rfl⟩ := h2
  obtain ⟨ψ, e1, e2, τ, e3⟩ := bindId_sound h1 hσ hL
  exact ⟨ψ, e1, hR _ e2 rfl, τ, e3⟩

theorem taken_push {σ : List Src} {φσ : Phi} {s : Src} {L : Loc} {R : Phi → Prop} (hσ : All2 (SrcOK φ) σ φσ) (hs : SrcOK φ s L) (hR : ∀ φ1, φ1[σ.length]? = some L → R φ1) : Taken φ σ (σ ++ [s]) φσ R := by
  obtain ⟨h1, h2⟩ := push_src hσ hs
  exact ⟨[L], h1, hR _ h2, _, rfl⟩

theorem taken_same {σ : List Src} {φσ : Phi} {R : Phi → Prop} (hσ : All2 (SrcOK φ) σ φσ) (hR : R φσ) : Taken φ σ σ φσ R := ⟨[], by simpa using hσ, by simpa using hR, [], by simp⟩

/-- A source that no value tells, where the slice is none. -/
theorem taken_bind0 {σ σ' : List Src} {φσ : Phi} {id cid : Nat} {as as' : List At} {R : Phi → Prop} (h : (bindId σ id cid).map (fun σ' => (σ', as')) = some (σ', as)) (hσ : All2 (SrcOK φ) σ φσ) (hL : ∃ L, φ[cid]? = some L)
    (hR : ∀ φ1, as = as' → R φ1) : Taken φ σ σ' φσ R := by
  obtain ⟨L, hL⟩ := hL
  exact taken_bind h hσ hL fun φ1 _ e => hR φ1 e

theorem get_of_len {φ : Phi} {N id : Nat} (hN : φ.length = N) (h : id < N) : ∃ L, φ[id]? = some L := ⟨φ[id]'(by omega), List.getElem?_eq_getElem (by omega)⟩

theorem taken_mview {σ : List Src} {φσ : Phi} {cid F wd i lo len : Nat} {v : Value} (hσ : All2 (SrcOK φ) σ φσ) (hv : relS φ (.mems cid F wd i lo len) v) (hrw : isRows bs σ.length = true) :
    Taken φ σ (σ ++ [.mview cid F wd i lo len]) φσ fun φ1 => shRel bs φ1 (.vw σ.length wd) [] v := by
  rcases hv with ⟨h0, a0, rfl⟩ | ⟨L, LF, b, o, l0, c0, cap, hL, hF, hin, hm, hll, hle, rfl⟩
  · refine taken_push (L := ⟨0, 0, 0, 0, .nil⟩) hσ (.inl ⟨h0, rfl, rfl⟩) fun φ1 h1 => ?_
    exact ⟨_, h1, .inl ⟨rfl, a0, rfl⟩, hrw⟩
  · refine taken_push (L := ⟨b, o + lo * wd, len * wd, len, .nil⟩) hσ (.inr ⟨L, LF, b, o, l0, c0, hL, hF, hin, hm, hll, rfl⟩) fun φ1 h1 => ?_
    exact ⟨_, h1, .inr ⟨_, cap, h1, hle, by simp, by simp⟩, hrw⟩

theorem takeS_sound {N : Nat} (hN : φ.length = N) {σ σ' : List Src} {φσ : Phi} {s : Sh} {a : AS} {as : List At} {v : Value} (h : takeS bs N σ s a = some (σ', as)) (hσ : All2 (SrcOK φ) σ φσ) (hv : relS φ a v) :
    Taken φ σ σ' φσ fun φ1 => shRel bs φ1 s as v := by
  unfold takeS at h
  split at h
  · cases h; exact taken_same hσ hv
  · split at h
    · rename_i hk; subst hk; cases h; exact taken_same hσ hv
    · cases h
  · rename_i id o cid o'
    split at h
    · rename_i hb
      have := Nat.eq_of_beq_eq_true hb
      subst this
      obtain ⟨L, hL, rfl⟩ := hv
      refine taken_bind h hσ hL fun φ1 h1 e => ?_
      subst e
      exact ⟨L, h1, rfl⟩
    · cases h
  · rename_i id wd c cid wd' i c'
    split at h
    · rename_i hb hb'
      have := Nat.eq_of_beq_eq_true hb
      subst this
      have := Nat.eq_of_beq_eq_true hb'
      subst this
      obtain ⟨L, hL, hi, rfl⟩ := hv
      refine taken_bind h hσ hL fun φ1 h1 e => ?_
      subst e
      exact ⟨L, h1, hi, rfl⟩
    · cases h
  · rename_i id wd cid wd' n
    split at h
    · rename_i hb hrw
      have := Nat.eq_of_beq_eq_true hb
      subst this
      obtain ⟨L, hL, hn, hv⟩ := hv
      subst hn
      refine taken_bind h hσ hL fun φ1 h1 e => ?_
      subst e
      exact ⟨L, h1, ⟨L, h1, rfl, hv⟩, hrw⟩
    · cases h
  · rename_i id wd cid wd' n cp
    split at h
    · rename_i hb hrw
      have := Nat.eq_of_beq_eq_true hb
      subst this
      obtain ⟨L, hL, hn, hv⟩ := slw_of_slk hv
      subst hn
      refine taken_bind h hσ hL fun φ1 h1 e => ?_
      subst e
      exact ⟨L, h1, ⟨L, h1, rfl, hv⟩, hrw⟩
    · cases h
  · rename_i id wd
    split at h
    · rename_i hb hrw
      have := Nat.eq_of_beq_eq_true hb
      subst this
      cases h
      simp only [relS] at hv
      subst hv
      refine taken_push (L := ⟨0, 0, 0, 0, .nil⟩) hσ ⟨rfl, rfl⟩ fun φ1 h1 => ?_
      exact ⟨_, h1, ⟨_, h1, rfl, .inl ⟨rfl, none, rfl⟩⟩, hrw⟩
    · cases h
  · rename_i id wd
    split at h
    · rename_i cid wd' i len hvw
      split at h
      · rename_i hb
        have := Nat.eq_of_beq_eq_true hb
        subst this
        split at h
        · rename_i hlt
          have hlt : cid < N := by simpa using hlt
          rcases viewT_rel hvw hv with ⟨h0, a0, rfl⟩ | ⟨L, cap, hL, hle, hin, rfl⟩
          · refine taken_bind0 h hσ (get_of_len hN hlt) fun φ1 e => ?_
            subst e
            exact .inl ⟨h0, a0, rfl⟩
          · refine taken_bind h hσ hL fun φ1 h1 e => ?_
            subst e
            exact .inr ⟨L, cap, h1, hle, hin, rfl⟩
        · cases h
      · cases h
    · cases h
  · rename_i id wd
    split at h
    · rename_i hb hrw
      have := Nat.eq_of_beq_eq_true hb
      subst this
      split at h
      · rename_i cid wd' i len hvw
        split at h
        · rename_i hb
          have := Nat.eq_of_beq_eq_true hb
          subst this
          cases h
          rcases viewT_rel hvw hv with ⟨h0, a0, rfl⟩ | ⟨L, cap, hL, hle, hin, rfl⟩
          · refine taken_push (L := ⟨0, 0, 0, 0, .nil⟩) hσ (.inl ⟨h0, rfl, rfl⟩) fun φ1 h1 => ?_
            exact ⟨_, h1, .inl ⟨rfl, a0, rfl⟩, hrw⟩
          · refine taken_push (L := ⟨L.b, L.base + i * wd, len * wd, len, .nil⟩) hσ (.inr ⟨L, hL, hin, rfl⟩) fun φ1 h1 => ?_
            exact ⟨_, h1, .inr ⟨_, cap, h1, hle, by simp, by simp⟩, hrw⟩
        · cases h
      · split at h
        · rename_i cid wd' o len _
          split at h
          · rename_i hb
            have := Nat.eq_of_beq_eq_true hb
            subst this
            cases h
            rcases hv with ⟨h0, a0, rfl⟩ | ⟨L, cap, hL, hle, rfl⟩
            · refine taken_push (L := ⟨0, 0, 0, 0, .nil⟩) hσ (.inl ⟨h0, rfl, rfl⟩) fun φ1 h1 => ?_
              exact ⟨_, h1, .inl ⟨rfl, a0, rfl⟩, hrw⟩
            · refine taken_push (L := ⟨L.b, L.base + o, len * wd, len, .nil⟩) hσ (.inr ⟨L, hL, rfl⟩) fun φ1 h1 => ?_
              exact ⟨_, h1, .inr ⟨_, cap, h1, hle, by simp, by simp⟩, hrw⟩
          · cases h
        · rename_i cid F wd' i len _
          split at h
          · rename_i hb
            have := Nat.eq_of_beq_eq_true hb
            subst this
            cases h
            exact taken_mview hσ (mems_of_mem hv) hrw
          · cases h
        · rename_i cid F wd' i lo len _
          split at h
          · rename_i hb
            have := Nat.eq_of_beq_eq_true hb
            subst this
            cases h
            exact taken_mview hσ hv hrw
          · cases h
        · cases h
          simp only [relS] at hv
          subst hv
          refine taken_push (L := ⟨0, 0, 0, 0, .nil⟩) hσ ⟨rfl, rfl⟩ fun φ1 h1 => ?_
          exact ⟨_, h1, .inl ⟨rfl, none, rfl⟩, hrw⟩
        · cases h
    · cases h
  · rename_i id f wd
    split at h
    · rename_i cid cF wd' i lo len hvw
      split at h
      · rename_i hb hlt hltF
        have := Nat.eq_of_beq_eq_true hb
        subst this
        have hlt : cid < N := by simpa using hlt
        have hltF : cF < N := by simpa using hltF
        split at h
        · rename_i σ1 hσ1
          obtain ⟨σ2, h1, h2⟩ := Option.map_eq_some_iff.1 h
          simp only [Prod.mk.injEq] at h2
          obtain ⟨rfl, rfl⟩ := h2
          obtain ⟨L, hL⟩ := get_of_len hN hlt
          obtain ⟨LF, hLF⟩ := get_of_len hN hltF
          obtain ⟨ψ, e1, e2, τ, e3⟩ := bindId_sound hσ1 hσ hL
          obtain ⟨ψ', f1, f2, τ', f3⟩ := bindId_sound h1 e1 hLF
          refine ⟨ψ ++ ψ', by rw [← List.append_assoc]; exact f1, ?_, τ ++ τ', by rw [f3, e3]; simp⟩
          rw [← List.append_assoc]
          rcases viewM_rel hvw hv with hz | ⟨L', LF', b, o, l0, c0, cap, hL', hF', hin, hm, hll, hle, rfl⟩
          · exact .inl hz
          · rw [hL] at hL'; cases hL'
            rw [hLF] at hF'; cases hF'
            exact .inr ⟨L, LF, b, o, l0, c0, cap, get_prefix e2, f2, hin, hm, hll, hle, rfl⟩
        · cases h
      · cases h
    · cases h
  · rename_i id cid
    obtain ⟨L, hL, hv⟩ := hv
    refine taken_bind h hσ hL fun φ1 h1 e => ?_
    subst e
    exact ⟨L, h1, hv⟩
  · rename_i id _
    split at h
    · rename_i hb hk
      have := Nat.eq_of_beq_eq_true hb
      subst this
      cases h
      refine taken_push (L := ⟨0, 0, 0, 0, ⟨v, fun _ => .tuple #[]⟩⟩) hσ hv fun φ1 h1 => ?_
      exact ⟨_, h1, rfl, opq_fresh hk hv⟩
    · cases h
  · cases h; exact taken_same hσ hv
  · cases h; exact taken_same hσ hv
  · cases h; exact taken_same hσ hv
  · rename_i f caps f' caps'
    split at h
    · rename_i hb
      have := Nat.eq_of_beq_eq_true hb
      subst this
      obtain ⟨σ1, h1, h2⟩ := Option.map_eq_some_iff.1 h
      simp only [Prod.mk.injEq] at h2
      obtain ⟨rfl, rfl⟩ := h2
      obtain ⟨cs, rfl, hcs⟩ := hv
      obtain ⟨ψ, e1, e2, τ, e3⟩ := bindCaps_sound h1 hσ hcs
      exact ⟨ψ, e1, ⟨cs, rfl, e2⟩, τ, e3⟩
    · cases h
  · cases h

theorem takeL_sound {N : Nat} (hN : φ.length = N) : ∀ {ss : List Sh} {as : List AS} {σ σ' : List Src} {φσ : Phi} {l : List At} {vs : List Value}, takeL bs N σ ss as = some (σ', l) → All2 (SrcOK φ) σ φσ → All2 (relS φ) as vs →
    (Taken φ σ σ' φσ fun φ1 => shRels bs φ1 ss l vs) ∧ ss.length = as.length
  | [], [], σ, σ', φσ, l, vs, h, hσ, hv => by
    cases h
    cases vs with
    | nil => exact ⟨taken_same hσ ⟨rfl, rfl⟩, rfl⟩
    | cons _ _ => exact hv.elim
  | s :: ss, a :: as, σ, σ', φσ, l, vs, h, hσ, hv => by
    simp only [takeL] at h
    split at h
    · rename_i σ1 x h1
      split at h
      · rename_i σ2 y h2
        cases h
        cases vs with
        | nil => exact hv.elim
        | cons v vs =>
          obtain ⟨ψ, e1, e2, τ, e3⟩ := takeS_sound hN h1 hσ hv.1
          obtain ⟨⟨ψ', f1, f2, τ', f3⟩, f4⟩ := takeL_sound hN h2 e1 hv.2
          refine ⟨⟨ψ ++ ψ', by rw [← List.append_assoc]; exact f1, ⟨x, y, v, vs, rfl, rfl, ?_, by rw [← List.append_assoc]; exact f2⟩, τ ++ τ', by rw [f3, e3]; simp⟩, by simp [f4]⟩
          rw [← List.append_assoc]
          exact e2.mono ψ'
      · cases h
    · cases h
  | [], _ :: _, _, _, _, _, _, h, _, _ => by simp [takeL] at h
  | _ :: _, [], _, _, _, _, _, h, _, _ => by simp [takeL] at h

def avRel (bs : List BSh) (φ : Phi) : Bool × List Sh → List At → Value → Prop
  | (true, r), as, v => ∃ cs : Array Value, v = .agg cs ∧ shRels bs φ r as cs.toList
  | (false, [s]), as, v => shRel bs φ s as v
  | _, _, _ => False

def avRels (bs : List BSh) (φ : Phi) : List (Bool × List Sh) → List At → List Value → Prop
  | [], as, vs => as = [] ∧ vs = []
  | s :: r, as, vs => ∃ a1 a2 v vs', as = a1 ++ a2 ∧ vs = v :: vs' ∧ avRel bs φ s a1 v ∧ avRels bs φ r a2 vs'

def tRel (bs : List BSh) (φ : Phi) : TSh → List At → Value → Prop
  | .v b r, as, v => avRel bs φ (b, r) as v
  | .tup r, as, v => ∃ vs : Array Value, v = .tuple vs ∧ avRels bs φ r as vs.toList
  | .any, as, _ => as = []

def tRels (bs : List BSh) (φ : Phi) : List TSh → List At → List Value → Prop
  | [], as, vs => as = [] ∧ vs = []
  | s :: r, as, vs => ∃ a1 a2 v vs', as = a1 ++ a2 ∧ vs = v :: vs' ∧ tRel bs φ s a1 v ∧ tRels bs φ r a2 vs'

theorem avRel.mono {bs : List BSh} {φ : Phi} (ψ : Phi) {s : Bool × List Sh} {as : List At} {v : Value} (h : avRel bs φ s as v) : avRel bs (φ ++ ψ) s as v := by
  unfold avRel at h ⊢
  split at h
  · obtain ⟨cs, h1, h2⟩ := h; exact ⟨cs, h1, h2.mono ψ⟩
  · exact h.mono ψ
  · exact h.elim

theorem avRels.mono {bs : List BSh} {φ : Phi} (ψ : Phi) : ∀ {s : List (Bool × List Sh)} {as : List At} {vs : List Value}, avRels bs φ s as vs → avRels bs (φ ++ ψ) s as vs
  | [], _, _, h => h
  | _ :: _, _, _, ⟨a1, a2, v, vs', h1, h2, h3, h4⟩ => ⟨a1, a2, v, vs', h1, h2, h3.mono ψ, avRels.mono ψ h4⟩

theorem tRel.mono {bs : List BSh} {φ : Phi} (ψ : Phi) {s : TSh} {as : List At} {v : Value} (h : tRel bs φ s as v) : tRel bs (φ ++ ψ) s as v := by
  cases s with
  | v b r => exact avRel.mono ψ h
  | tup r => obtain ⟨vs, h1, h2⟩ := h; exact ⟨vs, h1, h2.mono ψ⟩
  | any => exact h

theorem tRels.mono {bs : List BSh} {φ : Phi} (ψ : Phi) : ∀ {s : List TSh} {as : List At} {vs : List Value}, tRels bs φ s as vs → tRels bs (φ ++ ψ) s as vs
  | [], _, _, h => h
  | _ :: _, _, _, ⟨a1, a2, v, vs', h1, h2, h3, h4⟩ => ⟨a1, a2, v, vs', h1, h2, h3.mono ψ, tRels.mono ψ h4⟩

theorem takeA_sound {N : Nat} (hN : φ.length = N) {s : Bool × List Sh} {a : AV} {σ σ' : List Src} {φσ : Phi} {l : List At} {v : Value} (h : takeA bs N σ s a = some (σ', l)) (hσ : All2 (SrcOK φ) σ φσ) (hv : relA φ a v) :
    Taken φ σ σ' φσ fun φ1 => avRel bs φ1 s l v := by
  unfold takeA at h
  split at h
  · obtain ⟨cs, rfl, hcs⟩ := hv
    obtain ⟨⟨ψ, e1, e2, e3⟩, _⟩ := takeL_sound hN h hσ hcs
    exact ⟨ψ, e1, ⟨cs, rfl, e2⟩, e3⟩
  · exact takeS_sound hN h hσ hv
  · cases h

theorem takeAs_sound {N : Nat} (hN : φ.length = N) : ∀ {ss : List (Bool × List Sh)} {as : List AV} {σ σ' : List Src} {φσ : Phi} {l : List At} {vs : List Value}, takeAs bs N σ ss as = some (σ', l) → All2 (SrcOK φ) σ φσ → All2 (relA φ) as vs →
    Taken φ σ σ' φσ fun φ1 => avRels bs φ1 ss l vs
  | [], [], σ, σ', φσ, l, vs, h, hσ, hv => by
    cases h
    cases vs with
    | nil => exact taken_same hσ ⟨rfl, rfl⟩
    | cons _ _ => exact hv.elim
  | s :: ss, a :: as, σ, σ', φσ, l, vs, h, hσ, hv => by
    simp only [takeAs] at h
    split at h
    · rename_i σ1 x h1
      split at h
      · rename_i σ2 y h2
        cases h
        cases vs with
        | nil => exact hv.elim
        | cons v vs =>
          obtain ⟨ψ, e1, e2, τ, e3⟩ := takeA_sound hN h1 hσ hv.1
          obtain ⟨ψ', f1, f2, τ', f3⟩ := takeAs_sound hN h2 e1 hv.2
          refine ⟨ψ ++ ψ', by rw [← List.append_assoc]; exact f1, ⟨x, y, v, vs, rfl, rfl, ?_, by rw [← List.append_assoc]; exact f2⟩, τ ++ τ', by rw [f3, e3]; simp⟩
          rw [← List.append_assoc]
          exact e2.mono ψ'
      · cases h
    · cases h
  | [], _ :: _, _, _, _, _, _, h, _, _ => by simp [takeAs] at h
  | _ :: _, [], _, _, _, _, _, h, _, _ => by simp [takeAs] at h

theorem takeT_sound {N : Nat} (hN : φ.length = N) {s : TSh} {a : TV} {σ σ' : List Src} {φσ : Phi} {l : List At} {v : Value} (h : takeT bs N σ s a = some (σ', l)) (hσ : All2 (SrcOK φ) σ φσ) (hv : relT φ a v) :
    Taken φ σ σ' φσ fun φ1 => tRel bs φ1 s l v := by
  unfold takeT at h
  split at h
  · exact takeA_sound hN h hσ hv
  · rename_i b r c
    have hv' : relA φ (.s (.b c)) v := hv
    exact takeA_sound hN h hσ hv'
  · obtain ⟨vs, rfl, hvs⟩ := hv
    obtain ⟨ψ, e1, e2, e3⟩ := takeAs_sound hN h hσ hvs
    exact ⟨ψ, e1, ⟨vs, rfl, e2⟩, e3⟩
  · cases h; exact taken_same hσ rfl
  · cases h

theorem takeTs_sound {N : Nat} (hN : φ.length = N) : ∀ {ss : List TSh} {as : List TV} {σ σ' : List Src} {φσ : Phi} {l : List At} {vs : List Value}, takeTs bs N σ ss as = some (σ', l) → All2 (SrcOK φ) σ φσ → All2 (relT φ) as vs →
    Taken φ σ σ' φσ fun φ1 => tRels bs φ1 ss l vs
  | [], [], σ, σ', φσ, l, vs, h, hσ, hv => by
    cases h
    cases vs with
    | nil => exact taken_same hσ ⟨rfl, rfl⟩
    | cons _ _ => exact hv.elim
  | s :: ss, a :: as, σ, σ', φσ, l, vs, h, hσ, hv => by
    simp only [takeTs] at h
    split at h
    · rename_i σ1 x h1
      split at h
      · rename_i σ2 y h2
        cases h
        cases vs with
        | nil => exact hv.elim
        | cons v vs =>
          obtain ⟨ψ, e1, e2, τ, e3⟩ := takeT_sound hN h1 hσ hv.1
          obtain ⟨ψ', f1, f2, τ', f3⟩ := takeTs_sound hN h2 e1 hv.2
          refine ⟨ψ ++ ψ', by rw [← List.append_assoc]; exact f1, ⟨x, y, v, vs, rfl, rfl, ?_, by rw [← List.append_assoc]; exact f2⟩, τ ++ τ', by rw [f3, e3]; simp⟩
          rw [← List.append_assoc]
          exact e2.mono ψ'
      · cases h
    · cases h
  | [], _ :: _, _, _, _, _, _, h, _, _ => by simp [takeTs] at h
  | _ :: _, [], _, _, _, _, _, h, _, _ => by simp [takeTs] at h
end
end Go.AM
end
