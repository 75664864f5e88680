/-
  The abstract machine, part 13: functions.
-/
import Derived.Test.YtgmhggipaopoiaaAmPToAmC
import Derived.Below
import Derived.Carry
import Derived.Handed
import Derived.ProofKit
import Derived.Laws.BitsAllLaws
import Derived.Laws.Bits64b
section
namespace Go.AM
open Go.RowKit

def resOne (P : Program) (s : ASt) : ResultVar → Option AV
  | .tmp t => match unk (s.tm.getD t (.tup [])) with
    | .v a => some a
    | _ => none
  | .cell a t => match (loadT P s.hp t (unk (s.tm.getD a (.tup [])))).val with
    | some (.v v) => some v
    | _ => none

def resAll (P : Program) (s : ASt) : List ResultVar → Option (List AV)
  | [] => some []
  | r :: rs => match resOne P s r with
    | some a => match resAll P s rs with
      | some as => some (a :: as)
      | none => none
    | none => none

def resT (P : Program) (s : ASt) (rs : List ResultVar) : Option TV :=
  match resAll P s rs with
  | some [a] => some (.v a)
  | some l => some (.tup l)
  | none => none

def retT (P : Program) (rs : List ResultVar) (r : Ex × ASt) : Tr (TV × AH) :=
  match r.1 with
  | .exit _ => .no
  | _ => match resT P r.2 rs with
    | some v => forceL r.2.hp fun h => .ok (v, h)
    | none => .no

def call (P : Program) (Γ : Specs) (sy : Nat → Option Nat) (Lp : Loops) (fuel : Nat) (fn : Func) (args : List TV) (H : AH) : Tr (TV × AH) :=
  match fn.body with
  | some c => (exec P Γ sy Lp fuel c ⟨args ++ List.replicate (fn.ntmps - args.length) (.tup []), H⟩).bind (retT P fn.results.toList)
  | none => .no

def LoopsFn (P : Program) (k : Nat) (Lp : Loops) (fn : Func) : Prop := ∀ c, fn.body = some c → LoopsOK P k Lp c

section
variable {P : Program} {Γ : Specs} {sy : Nat → Option Nat} {Lp : Loops} {fuel : Nat} {φ : Phi}

def resSem (tmps : Array Value) : ResultVar → Sem Value
  | .tmp t => pure (tmps.getD t undef)
  | .cell x t => do loadVar t (← asAddr (tmps.getD x undef))

theorem results_eq (fn : Func) (tmps : Array Value) : results fn tmps = (do let vs ← fn.results.mapM (resSem tmps); pure (if h : vs.size = 1 then vs[0] else .tuple vs)) := by
  unfold results
  congr 1

theorem resOne_run {s : ASt} {a : Act} {w : World} {r : ResultVar} {v : AV} (hI : Inv φ s a w) (h : resOne P s r = some v) :
    ∃ u, relA φ v u ∧ (resSem a.tmps r).run P w = .ok u w := by
  have hev : ∀ t, relT φ (unk (s.tm.getD t (.tup []))) (a.tmps.getD t undef) := fun t => evalT_rel (φ := φ) hI.tm (.tmp t)
  cases r with
  | tmp t =>
    simp only [resOne] at h
    split at h
    · rename_i a' ha
      obtain rfl := Option.some.inj h
      have := hev t
      rw [ha] at this
      exact ⟨_, this, rfl⟩
    · cases h
  | cell x t =>
    simp only [resOne] at h
    split at h
    · rename_i v' hv
      obtain rfl := Option.some.inj h
      obtain ⟨u, hu, hrun⟩ := run_loadT hv hI.rep (hev x)
      refine ⟨u, hu, ?_⟩
      unfold Instr.loadAt at hrun
      show (do loadVar t (← asAddr (a.tmps.getD x undef)) : Sem Value).run P w = _
      generalize a.tmps.getD x undef = q at hrun ⊢
      cases q <;> try (simp [Instr.sureAddr] at hrun; done)
      rename_i ad
      cases ad with
      | none => simp [Instr.sureAddr] at hrun
      | some ad => simpa [Instr.sureAddr, asAddr] using hrun
    · cases h

theorem resAll_run {s : ASt} {a : Act} {w : World} (hI : Inv φ s a w) : ∀ {rs : List ResultVar} {vs : List AV}, resAll P s rs = some vs →
    ∃ us : List Value, All2 (relA φ) vs us ∧ (rs.mapM (resSem a.tmps)).run P w = .ok us w
  | [], vs, h => by
    simp only [resAll, Option.some.injEq] at h
    subst h
    exact ⟨[], trivial, by simp⟩
  | r :: rs, vs, h => by
    simp only [resAll] at h
    split at h
    · rename_i v hv
      split at h
      · rename_i as has
        obtain rfl := Option.some.inj h
        obtain ⟨u, hu, hrun⟩ := resOne_run hI hv
        obtain ⟨us, hus, hruns⟩ := resAll_run hI has
        refine ⟨u :: us, ⟨hu, hus⟩, ?_⟩
        rw [List.mapM_cons]
        simp only [Sem.run_bind, hrun, hruns, Result.andThen_ok, Sem.run_pure]
      · cases h
    · cases h

theorem resT_run {s : ASt} {a : Act} {w : World} {fn : Func} {tv : TV} (hI : Inv φ s a w) (h : resT P s fn.results.toList = some tv) :
    ∃ v, relT φ tv v ∧ (results fn a.tmps).run P w = .ok v w := by
  have key : ∀ {vs : List AV}, resAll P s fn.results.toList = some vs → ∃ us : List Value, All2 (relA φ) vs us ∧ (results fn a.tmps).run P w = .ok (if h : us.toArray.size = 1 then us.toArray[0] else .tuple us.toArray) w := by
    intro vs hvs
    obtain ⟨us, h1, h2⟩ := resAll_run hI hvs
    refine ⟨us, h1, ?_⟩
    rw [results_eq, Array.mapM_eq_mapM_toList]
    simp only [Sem.run_bind, Sem.run_map, Sem.run_pure]
    rw [h2]
    rfl
  unfold resT at h
  split at h
  · rename_i v hv
    obtain rfl := Option.some.inj h
    obtain ⟨us, h1, h2⟩ := key hv
    match us, h1 with
    | [u], h1 => exact ⟨u, h1.1, by rw [h2]; rfl⟩
  · rename_i l hn hl
    obtain rfl := Option.some.inj h
    obtain ⟨us, h1, h2⟩ := key hl
    have hne : us.toArray.size ≠ 1 := by
      intro e
      have := h1.length_eq
      match l, this with
      | [a], _ => exact hn a rfl
      | [], e' => simp at e; rw [← e'] at e; simp at e
      | _ :: _ :: _, e' => simp at e; rw [← e'] at e; simp at e
    exact ⟨.tuple us.toArray, ⟨us.toArray, rfl, by simpa using h1⟩, by rw [h2, dif_neg hne]⟩
  · cases h

theorem calls_am (hΓ : SpecOK P Γ) (hm : P.follows .mixedOrders = true) {f : FuncId} {fn : Func} (hf : P.funcs[f]? = some fn) {targs : List TV} {args : List Value} {H : AH} {w : World} (hL : LoopsFn P H.length Lp fn) (hargs : All2 (relT φ) targs args) (hrep : Rep φ H w.heap)
    {R : TV → AH → Prop} (h : (call P Γ sy Lp fuel fn targs H).sat fun r => R r.1 r.2) :
    Calls P f args.toArray w fun e w' => ∃ v φ' tv H', e = .returned v ∧ R tv H' ∧ relT φ' tv v ∧ Rep φ' H' w'.heap ∧ Ext φ H w φ' H' w' := by
  unfold call at h
  cases hb : fn.body with
  | none => rw [hb] at h; exact (Tr.sat_no.1 h).elim
  | some c =>
    simp only [hb] at h
    obtain ⟨r, hr, hR⟩ := h
    rw [Tr.val_bind] at hr
    cases he : (exec P Γ sy Lp fuel c ⟨targs ++ List.replicate (fn.ntmps - targs.length) (.tup []), H⟩).val with
    | none => simp [he] at hr
    | some r1 =>
      simp only [he, Option.bind_some] at hr
      refine calls_of_wp hf hb ?_
      have hlen := hargs.length_eq
      refine exec_goes hΓ hm c (hL c hb) _ _ he ⟨φ, H, w, hrep.len, rfl⟩ φ _ w _ ⟨hrep, ?_, rfl⟩ (Ext.refl _ _ _) fun φ' a' w' hI hE => ?_
      · simp only [Array.toList_append, Array.toList_replicate, List.size_toArray]
        rw [hlen]
        exact hargs.append (All2.replicate ⟨#[], rfl, trivial⟩ _)
      · unfold retT at hr
        have fin : ∀ tv H', (match resT P r1.2 fn.results.toList with
            | some v => forceL r1.2.hp fun h => Tr.ok (v, h)
            | none => .no).val = some (tv, H') → ∃ v, (results fn a'.tmps).run P w' = .ok v w' ∧ relT φ' tv v ∧ H' = r1.2.hp := by
          intro tv H' h
          split at h
          · rename_i v hv
            rw [forceL_eq] at h
            have := val_ok h
            simp only [Prod.mk.injEq] at this
            obtain ⟨rfl, rfl⟩ := this
            obtain ⟨u, hu, hrun⟩ := resT_run hI hv
            exact ⟨u, hrun, hu, rfl⟩
          · simp [Tr.val] at h
        obtain ⟨e1, s1⟩ := r1
        cases e1 with
        | exit id => simp [Tr.val] at hr
        | normal =>
          obtain ⟨v, g1, g2, g3⟩ := fin r.1 r.2 hr
          exact ⟨hI.df, v, g1, v, φ', r.1, r.2, rfl, hR, g2, g3 ▸ hI.rep, g3 ▸ hE⟩
        | ret =>
          obtain ⟨v, g1, g2, g3⟩ := fin r.1 r.2 hr
          exact ⟨hI.df, v, g1, v, φ', r.1, r.2, rfl, hR, g2, g3 ▸ hI.rep, g3 ▸ hE⟩

/-! ### functions that hand back what hangs on no memory -/

def closedS : AS → Bool
  | .b _ | .n _ _ | .pnil | .slnil | .sle | .str _ | .fnil => true
  | .fn _ [] => true
  | _ => false

def closedA : AV → Bool
  | .s a => closedS a
  | .agg l => l.all closedS

def closedT : TV → Bool
  | .v a => closedA a
  | .tup l => l.all closedA
  | .any => true
  | .k _ => true

theorem closedS_rel {φ ψ : Phi} {a : AS} {v : Value} (hc : closedS a = true) (h : relS φ a v) : relS ψ a v := by
  cases a <;> first
    | exact h
    | (simp [closedS] at hc; done)
    | skip
  rename_i f caps
  cases caps with
  | nil =>
    obtain ⟨cs, h1, h2⟩ := h
    cases cs with
    | nil => exact ⟨[], h1, trivial⟩
    | cons _ _ => exact h2.elim
  | cons _ _ => simp [closedS] at hc

theorem all_closed {α : Type} {φ ψ : Phi} {R : Phi → α → Value → Prop} {cl : α → Bool} (hr : ∀ a v, cl a = true → R φ a v → R ψ a v) : ∀ {l : List α} {vs : List Value}, l.all cl = true → All2 (R φ) l vs → All2 (R ψ) l vs
  | [], [], _, _ => trivial
  | a :: l, v :: vs, hc, h => by
    simp only [List.all_cons, Bool.and_eq_true] at hc
    exact ⟨hr a v hc.1 h.1, all_closed hr hc.2 h.2⟩
  | [], _ :: _, _, h => h.elim
  | _ :: _, [], _, h => h.elim

theorem closedA_rel {φ ψ : Phi} {a : AV} {v : Value} (hc : closedA a = true) (h : relA φ a v) : relA ψ a v := by
  cases a with
  | s a => exact closedS_rel hc h
  | agg l => obtain ⟨cs, h1, h2⟩ := h; exact ⟨cs, h1, all_closed (R := relS) (fun a v => closedS_rel) hc h2⟩

theorem closedT_rel {φ ψ : Phi} {a : TV} {v : Value} (hc : closedT a = true) (h : relT φ a v) : relT ψ a v := by
  cases a with
  | v a => exact closedA_rel hc h
  | tup l => obtain ⟨cs, h1, h2⟩ := h; exact ⟨cs, h1, all_closed (R := relA) (fun a v => closedA_rel) hc h2⟩
  | any => trivial
  | k b => exact h

def fnOk (P : Program) (f : FuncId) (fn : Func) : Prop := P.funcs[f]? = some fn ∧ (fn.name == "runtime.NumGoroutine") = false ∧ fn.body.isNone = false

theorem rep_nil (heap : Array Obj) : Rep [] [] heap := ⟨rfl, fun id B h => by simp at h, fun id id' B B' L L' b h => by simp at h⟩

def Tr.all {α : Type} (p : α → Bool) : Tr α → Bool
  | .ok a => p a
  | .br _ _ t e => t.all p && e.all p
  | .no => true

def upd (Γ : Specs) (f : FuncId) (s : Spec) : Specs := fun g => match Nat.beq g f with
  | true => s
  | false => Γ g

theorem SpecOK.upd {Γ : Specs} (h : SpecOK P Γ) {f : FuncId} {s : Spec} (hs : SpecF P f s) : SpecOK P (upd Γ f s) := by
  intro g
  unfold AM.upd
  cases hb : Nat.beq g f with
  | true => have := Nat.eq_of_beq_eq_true hb; subst this; exact hs
  | false => exact h g

def noSpecs : Specs := fun _ => .none
theorem noSpecs_ok : SpecOK P noSpecs := fun _ => .inl rfl
def noLoops : Loops := fun _ => none
theorem noLoops_ok {k : Nat} (fn : Func) : LoopsFn P k noLoops fn := fun _ _ _ _ _ h => by simp [noLoops] at h

end
end Go.AM
end

/-
  The abstract machine, part 14: from a law's reading to the machine's arguments, and back.
-/
section
namespace Go.AM
open Go.RowKit Go.ChangeShapes Go.WideShapes

theorem all2_nil {α β : Type} {R : α → β → Prop} : All2 R [] [] := trivial
theorem all2_cons {α β : Type} {R : α → β → Prop} {a : α} {b : β} {as : List α} {bs : List β} (h : R a b) (t : All2 R as bs) : All2 R (a :: as) (b :: bs) := ⟨h, t⟩

def valS : SK → Int → Value
  | .b, x => .bool (x != 0)
  | .n k, x => .int k x

def wfS : SK → Int → Prop
  | .b, x => x = 0 ∨ x = 1
  | .n k, x => k.min ≤ x ∧ x ≤ k.max

theorem relS_mkS (φ : Phi) (k : SK) (x : Int) : relS φ (mkS k x) (valS k x) := by cases k <;> rfl

def valsK : List SK → List Int → List Value
  | k :: ks, x :: xs => valS k x :: valsK ks xs
  | _, _ => []

def mksK : List SK → List Int → List AS
  | k :: ks, x :: xs => mkS k x :: mksK ks xs
  | _, _ => []

def wfsK : List SK → List Int → Prop
  | k :: ks, x :: xs => wfS k x ∧ wfsK ks xs
  | [], [] => True
  | _, _ => False

theorem wfsK.length : ∀ {ks : List SK} {xs : List Int}, wfsK ks xs → xs.length = ks.length
  | [], [], _ => rfl
  | _ :: _, _ :: _, h => by simp [h.2.length]
  | [], _ :: _, h => h.elim
  | _ :: _, [], h => h.elim

theorem rel_mksK (φ : Phi) : ∀ (ks : List SK) (xs : List Int), All2 (relS φ) (mksK ks xs) (valsK ks xs)
  | [], _ => by simp [mksK, valsK, All2]
  | _ :: _, [] => by simp [mksK, valsK, All2]
  | k :: ks, x :: xs => ⟨relS_mkS φ k x, rel_mksK φ ks xs⟩

theorem valsK_append : ∀ {ks ks' : List SK} {xs xs' : List Int}, xs.length = ks.length → valsK (ks ++ ks') (xs ++ xs') = valsK ks xs ++ valsK ks' xs'
  | [], _, [], _, _ => rfl
  | k :: ks, _, x :: xs, _, h => by simp [valsK, valsK_append (ks := ks) (xs := xs) (by simpa using h)]
  | [], _, _ :: _, _, h => by simp at h
  | _ :: _, _, [], _, h => by simp at h

theorem wfsK_append : ∀ {ks ks' : List SK} {xs xs' : List Int}, wfsK ks xs → wfsK ks' xs' → wfsK (ks ++ ks') (xs ++ xs')
  | [], _, [], _, _, h => h
  | _ :: _, _, _ :: _, _, h, h' => ⟨h.1, wfsK_append h.2 h'⟩
  | [], _, _ :: _, _, h, _ => h.elim
  | _ :: _, _, [], _, h, _ => h.elim

def flatFs (fl : TypeId → Option (List SK)) (sz : TypeId → Nat) : (off : Nat) → List Field → Option (List SK)
  | _, [] => some []
  | off, f :: fs => if f.offset = off then match fl f.type with
      | some ks => if ks.length = sz f.type then match flatFs fl sz (off + ks.length) fs with
          | some r => some (ks ++ r)
          | none => none
        else none
      | none => none
    else none

def flatR (ks : List SK) : Nat → List SK
  | 0 => []
  | n + 1 => ks ++ flatR ks n

def flatK (P : Program) : Nat → TypeId → Option (List SK)
  | 0, _ => none
  | d + 1, t => match P.underlying t with
    | some .bool => some [.b]
    | some (.int k) => some [.n k]
    | some (.struct fs) => match flatFs (flatK P d) P.cellsOf 0 fs.toList with
      | some ks => if ks.length = P.cellsOf t then some ks else none
      | none => none
    | some (.array n e) => match flatK P d e with
      | some ks => if ks.length = P.cellsOf e ∧ n * ks.length = P.cellsOf t then some (flatR ks n) else none
      | none => none
    | _ => none

section
variable {P : Program} {H : Type} {enc : TypeId × Value → H}

theorem wf_of_lit {k : IntKind} {n : Int} (h : (Lit.int k n).wf = true) : k.min ≤ n ∧ n ≤ k.max := by
  simpa [Lit.wf] using h

theorem flatR_length (ks : List SK) : ∀ n, (flatR ks n).length = n * ks.length
  | 0 => by simp [flatR]
  | n + 1 => by simp [flatR, flatR_length ks n, Nat.add_mul]; omega

theorem trod_fields {W : World} {base : Nat} {sp : Nat → Bool} {held : Bool} {d fuel : Nat} {cs : List Value}
    (IH : ∀ t ks cs x, flatK P d t = some ks → DataW.trod enc P W base sp held fuel t cs = some x → ∃ xs, cs = valsK ks xs ∧ wfsK ks xs) :
    ∀ (fs : List Field) (off : Nat) (ks : List SK) (rs : List (DataW H × List MemPlace)), flatFs (flatK P d) P.cellsOf off fs = some ks →
      fs.mapM (fun f => DataW.trod enc P W base sp held fuel f.type ((cs.drop f.offset).take (P.cellsOf f.type))) = some rs → ∃ xs, (cs.drop off).take ks.length = valsK ks xs ∧ wfsK ks xs
  | [], off, ks, rs, h, _ => by
    simp only [flatFs, Option.some.injEq] at h
    subst h
    exact ⟨[], by simp [valsK], trivial⟩
  | f :: fs, off, ks, rs, h, hm => by
    simp only [flatFs] at h
    split at h
    · rename_i ho
      split at h
      · rename_i k1 hk1
        split at h
        · rename_i hl
          split at h
          · rename_i r hr
            obtain rfl := Option.some.inj h
            rw [List.mapM_cons] at hm
            simp only [bind, Option.bind_eq_some_iff, pure, Option.some.injEq] at hm
            obtain ⟨x1, h1, rs', h2, rfl⟩ := hm
            rw [ho] at h1
            obtain ⟨xs1, e1, w1⟩ := IH _ _ _ _ hk1 h1
            obtain ⟨xs2, e2, w2⟩ := trod_fields IH fs (off + k1.length) r rs' hr h2
            refine ⟨xs1 ++ xs2, ?_, wfsK_append w1 w2⟩
            rw [valsK_append w1.length, ← e1, ← e2, List.length_append, ← hl, List.take_add, List.drop_drop]
          · cases h
        · cases h
      · cases h
    · cases h

theorem trod_items {W : World} {base : Nat} {sp : Nat → Bool} {held : Bool} {fuel : Nat} {e : TypeId} {ks : List SK} {cs : List Value}
    (IH : ∀ cs x, DataW.trod enc P W base sp held fuel e cs = some x → ∃ xs, cs = valsK ks xs ∧ wfsK ks xs) (hl : ks.length = P.cellsOf e) :
    ∀ (n i : Nat) (rs : List (DataW H × List MemPlace)), (List.range' i n).mapM (fun i => DataW.trod enc P W base sp held fuel e ((cs.drop (i * P.cellsOf e)).take (P.cellsOf e))) = some rs →
      ∃ xs, (cs.drop (i * ks.length)).take (flatR ks n).length = valsK (flatR ks n) xs ∧ wfsK (flatR ks n) xs
  | 0, i, rs, _ => ⟨[], by simp [flatR, valsK], trivial⟩
  | n + 1, i, rs, hm => by
    rw [List.range'_succ, List.mapM_cons] at hm
    simp only [bind, Option.bind_eq_some_iff, pure, Option.some.injEq] at hm
    obtain ⟨x1, h1, rs', h2, rfl⟩ := hm
    obtain ⟨xs1, e1, w1⟩ := IH _ _ h1
    obtain ⟨xs2, e2, w2⟩ := trod_items IH hl n (i + 1) rs' h2
    refine ⟨xs1 ++ xs2, ?_, wfsK_append w1 w2⟩
    simp only [flatR, List.length_append]
    rw [valsK_append w1.length, ← e1, ← e2, ← hl, List.take_add, List.drop_drop, Nat.add_mul, Nat.one_mul]

theorem trod_flat {W : World} {base : Nat} {sp : Nat → Bool} {held : Bool} : ∀ (d : Nat) (t : TypeId) (ks : List SK) (fuel : Nat) (cs : List Value) (x : DataW H × List MemPlace), flatK P d t = some ks → DataW.trod enc P W base sp held fuel t cs = some x →
    ∃ xs, cs = valsK ks xs ∧ wfsK ks xs
  | 0, _, _, _, _, _, h, _ => by simp [flatK] at h
  | _ + 1, _, _, 0, _, _, _, hx => by simp [DataW.trod] at hx
  | d + 1, t, ks, fuel + 1, cs, x, h, hx => by
    unfold flatK at h
    have hx0 := hx
    unfold DataW.trod at hx
    split at h
    · rename_i hu
      obtain rfl := Option.some.inj h
      obtain ⟨b, rfl, _⟩ := DataW.trod_bool (fuel := fuel + 1) hu hx0
      refine ⟨[if b = true then 1 else 0], ?_, ?_⟩
      · cases b <;> rfl
      · cases b <;> simp [wfsK, wfS]
    · rename_i k hu
      obtain rfl := Option.some.inj h
      obtain ⟨n, rfl, _, hw⟩ := DataW.trod_int (fuel := fuel + 1) hu hx0
      exact ⟨[n], rfl, wf_of_lit hw, trivial⟩
    · rename_i fs hu
      split at h
      · rename_i ks' hks
        split at h
        · rename_i hlen
          obtain rfl := Option.some.inj h
          rw [hu] at hx
          split at hx
          all_goals first
            | (simp at *; done)
            | skip
          rename_i fs' _ heq
          simp only [Option.some.injEq, TypeDesc.struct.injEq] at heq
          subst heq
          split at hx
          · rename_i hcl
            simp only [Option.map_eq_some_iff] at hx
            obtain ⟨rs, hrs, rfl⟩ := hx
            obtain ⟨xs, e1, w1⟩ := trod_fields (fun t ks cs x h1 h2 => trod_flat d t ks fuel cs x h1 h2) _ 0 _ rs hks hrs
            refine ⟨xs, ?_, w1⟩
            rw [← e1, hlen, ← hcl]
            simp
          · cases hx
        · cases h
      · cases h
    · rename_i n e hu
      split at h
      · rename_i ks' hks
        split at h
        · rename_i hlen
          obtain rfl := Option.some.inj h
          rw [hu] at hx
          split at hx
          all_goals first
            | (simp at *; done)
            | skip
          rename_i n' e' _ heq
          simp only [Option.some.injEq, TypeDesc.array.injEq] at heq
          obtain ⟨rfl, rfl⟩ := heq
          split at hx
          · rename_i hcl
            simp only [Option.map_eq_some_iff] at hx
            obtain ⟨rs, hrs, rfl⟩ := hx
            rw [List.range_eq_range'] at hrs
            obtain ⟨xs, e1, w1⟩ := trod_items (fun cs x h2 => trod_flat d _ _ fuel cs x hks h2) hlen.1 n 0 rs hrs
            refine ⟨xs, ?_, w1⟩
            rw [← e1, flatR_length, hlen.2, ← hcl]
            simp
          · cases hx
        · cases h
      · cases h
    · cases h

def argT (b : Bool) (ks : List SK) (xs : List Int) : TV :=
  match b with
  | true => .v (.agg (mksK ks xs))
  | false => match mksK ks xs with
    | [a] => .v (.s a)
    | _ => .any

theorem open_flat {W : World} {base base' : Nat} {sp : Nat → Bool} {held : Bool} {t : TypeId} {ks : List SK} {b : Bool} {v : Value} {dd : DataW H} {ps : List MemPlace} {n : Nat} (hk : flatK P n t = some ks) (hb : aggT P t = some b)
    (hok : Value.okWide P W .any base' t v) (ht : DataW.Trod enc P W base sp held t v dd ps) : ∃ xs, wfsK ks xs ∧ ∀ φ, relT φ (argT b ks xs) v := by
  obtain ⟨fuel, hf⟩ := ht
  obtain ⟨xs, hc, hw⟩ := trod_flat n t ks fuel _ _ hk hf
  refine ⟨xs, hw, fun φ => ?_⟩
  have hlen := hw.length
  cases b with
  | true =>
    unfold aggT at hb
    have hag : ∃ cs, v = .agg cs := by
      unfold Value.okWide at hok
      split at hb <;> simp_all
      · obtain ⟨cs, h, _⟩ := hok; exact ⟨cs, h⟩
      · obtain ⟨cs, h, _⟩ := hok; exact ⟨cs, h⟩
    obtain ⟨cs, rfl⟩ := hag
    refine ⟨cs, rfl, ?_⟩
    have : cs.toList = valsK ks xs := hc
    rw [this]
    exact rel_mksK φ ks xs
  | false =>
    cases n with
    | zero => simp [flatK] at hk
    | succ n =>
      unfold flatK at hk
      unfold aggT at hb
      split at hk
      · rename_i hu
        obtain rfl := Option.some.inj hk
        obtain ⟨b, rfl⟩ := okWide_bool hu hok
        match xs, hlen with
        | [x], _ =>
          have h1 : [Value.bool b] = [valS .b x] := hc
          simp only [List.cons.injEq, and_true] at h1
          show Value.bool b = Value.bool (x != 0)
          exact h1
      · rename_i k hu
        obtain rfl := Option.some.inj hk
        obtain ⟨m, rfl⟩ := okWide_int hu hok
        match xs, hlen with
        | [x], _ =>
          have h1 : [Value.int k m] = [valS (.n k) x] := hc
          simp only [List.cons.injEq, and_true] at h1
          exact h1
      · rename_i fs hu; simp [hu] at hb
      · rename_i m e hu; simp [hu] at hb
      · cases hk

def mkF (x : Nat → Int) : Nat → List SK → List AS
  | _, [] => []
  | i, k :: ks => mkS k (x i) :: mkF x (i + 1) ks

def argF (b : Bool) (ks : List SK) (x : Nat → Int) : TV :=
  match b with
  | true => .v (.agg (mkF x 0 ks))
  | false => match mkF x 0 ks with
    | [a] => .v (.s a)
    | _ => .any

theorem mkF_eq : ∀ {ks : List SK} {xs : List Int} {x : Nat → Int} {i : Nat}, wfsK ks xs → (∀ j a, xs[j]? = some a → x (i + j) = a) → mkF x i ks = mksK ks xs
  | [], [], _, _, _, _ => rfl
  | k :: ks, y :: ys, x, i, h, hx => by
    have e1 : x i = y := hx 0 y rfl
    have e2 : mkF x (i + 1) ks = mksK ks ys := mkF_eq h.2 fun j a ha => by
      rw [show i + 1 + j = i + (j + 1) by omega]
      exact hx (j + 1) a (by simpa using ha)
    simp only [mkF, mksK, e1, e2]
  | [], _ :: _, _, _, h, _ => h.elim
  | _ :: _, [], _, _, h, _ => h.elim

theorem wfsK_at : ∀ {ks : List SK} {xs : List Int} {i : Nat} {k : SK}, wfsK ks xs → ks[i]? = some k → wfS k (xs.getD i 0)
  | k :: ks, y :: ys, 0, k', h, hi => by simp at hi; subst hi; exact h.1
  | k :: ks, y :: ys, i + 1, k', h, hi => by simpa using wfsK_at h.2 (by simpa using hi)
  | [], _, i, _, _, hi => by simp at hi
  | _ :: _, [], _, _, h, _ => h.elim

theorem open_flatF {W : World} {base base' : Nat} {sp : Nat → Bool} {held : Bool} {t : TypeId} {ks : List SK} {b : Bool} {v : Value} {dd : DataW H} {ps : List MemPlace} {n : Nat} (hk : flatK P n t = some ks) (hb : aggT P t = some b)
    (hok : Value.okWide P W .any base' t v) (ht : DataW.Trod enc P W base sp held t v dd ps) : ∃ x : Nat → Int, (∀ (i : Nat) k, ks[i]? = some k → wfS k (x i)) ∧ ∀ φ, relT φ (argF b ks x) v := by
  obtain ⟨xs, hw, hr⟩ := open_flat hk hb hok ht
  refine ⟨fun i => xs.getD i 0, fun i k hi => wfsK_at hw hi, fun φ => ?_⟩
  have e : mkF (fun i => xs.getD i 0) 0 ks = mksK ks xs := mkF_eq hw fun j a ha => by simp [List.getD, ha]
  have := hr φ
  unfold argF
  rw [e]
  exact this

theorem keptBut_of_below {W W' : World} (h : Below W.heap.size W W') (may : MemPlace → Prop) : W.keptBut W' may := by
  refine ⟨h.os, h.output, fun i hi => ?_⟩
  rw [h.block i hi]
  cases W.heap[i]? with
  | none => rfl
  | some o => cases o <;> first | exact ⟨rfl, rfl, rfl, fun _ _ => rfl⟩ | exact .inr ⟨rfl, rfl⟩ | rfl

theorem trodAll_stays (hl : laidOutB P = true) {W W' : World} (hb : Below W.heap.size W W') {sp : Nat → Bool} : ∀ {ts : List TypeId} {vs : List Value} {ds : List (DataW H)} {ps : List MemPlace}, (∀ t ∈ ts, P.readableRec t = true ∧ t < P.types.size) →
    DataW.TrodAll enc P W 0 (fun _ => true) true ts vs ds ps → (∀ p ∈ ps, p.block < W.heap.size) → (∀ p ∈ ps, sp p.block = true) → DataW.TrodAll enc P W' 0 sp true ts vs ds ps
  | [], [], [], _, _, h, _, _ => h
  | t :: ts, v :: vs, d :: ds, _, ht, ⟨p, q, h1, h2, e⟩, hlt, hs => by
    subst e
    refine ⟨p, q, WideElems.Trod_stays hl (ht t (by simp)).1 (ht t (by simp)).2 h1 (fun x hx => hb.same (hlt x (by simp [hx]))) (fun x hx => hs x (by simp [hx])), ?_, rfl⟩
    exact trodAll_stays hl hb (fun t ht' => ht t (by simp [ht'])) h2 (fun x hx => hlt x (by simp [hx])) (fun x hx => hs x (by simp [hx]))
  | [], [], _ :: _, _, _, h, _, _ => h.elim
  | [], _ :: _, _, _, _, h, _, _ => h.elim
  | _ :: _, [], _, _, _, h, _, _ => h.elim
  | _ :: _, _ :: _, [], _, _, h, _, _ => h.elim

theorem trodAll_len {W : World} {base : Nat} {sp : Nat → Bool} {held : Bool} : ∀ {ts : List TypeId} {vs : List Value} {ds : List (DataW H)} {ps : List MemPlace}, DataW.TrodAll enc P W base sp held ts vs ds ps → ds.length = ts.length ∧ vs.length = ts.length
  | [], [], [], _, _ => ⟨rfl, rfl⟩
  | _ :: _, _ :: _, _ :: _, _, ⟨p, q, h1, h2, e⟩ => by simp [trodAll_len h2]
  | [], [], _ :: _, _, h => h.elim
  | [], _ :: _, _, _, h => h.elim
  | _ :: _, [], _, _, h => h.elim
  | _ :: _, _ :: _, [], _, h => h.elim

theorem law_lifted {C : Checked} {os : Os} {f : FuncId} {fn : Func} {s : ChangeSpec} {tb : TypeId} (own : ownKnob C.prog.godebug = none) (started : os.Started) (noInit : C.prog.inits.idxOf? f = none) (hfn : C.prog.funcs[f]? = some fn)
    (hl : laidOutB C.prog = true) (hps : (fn.params.toList.all fun t => C.prog.readableRec t && decide (t < C.prog.types.size)) = true) (hres : fn.resultTypes = #[tb]) (hub : C.prog.underlying tb = some .bool) (hv : s.vars = [])
    (hs : ∀ (ds : List (DataW H)), ds.length = fn.params.toList.length → s.fn H ds = { results := [.lit (.bool true)], args := ds })
    (witness : ∃ (w : World) (tape : Tape) (i : Input), w.os = os ∧ (w.forCall tape i).Shaped C.prog ∧ i.vars = [] ∧ Input.okWide C.prog (w.forCall tape i) .any w.heap.size f i ∧
      s.pre6 enc C.prog fn [] false (w.forCall tape i).memory i.args ∧ ({} : Assume).holds C.prog (lone (Frame.enter C.prog f i.args .normal) [] (w.forCall tape i)))
    (hcall : ∀ (W : World) (base : Nat) (args : List Value) (ds : List (DataW H)) (ps : List MemPlace), (∀ (j : Nat) t v, fn.params.toList[j]? = some t → args[j]? = some v → Value.okWide C.prog W .any base t v) →
      DataW.TrodAll enc C.prog W 0 (fun _ => true) true fn.params.toList args ds ps → Calls C.prog f args.toArray W fun e W' => e = .returned (.bool true) ∧ Below W.heap.size W W') :
    ReturnsInHanded {} C os f .any (s.pre6 enc C.prog fn [] false) (s.post enc C.prog fn false true false false) := by
  refine returnsInHanded_of_change (C := C) own started noInit hfn witness ?_
  intro W base args ds gs before hval hW hcnd _
  have hW' := hW
  obtain ⟨p, q, hA, hV, hpq, hfz, hnd⟩ := hW
  rw [hv] at hV
  obtain ⟨rfl, rfl⟩ := trodVars_none hV
  simp only [List.append_nil] at hpq
  subst hpq
  have hlt : ∀ x ∈ before, x.block < W.heap.size := fun x hx => by simpa using hW'.lt x hx
  have hts : ∀ t ∈ fn.params.toList, C.prog.readableRec t = true ∧ t < C.prog.types.size := by
    intro t ht
    have := List.all_eq_true.1 hps t ht
    simpa using this
  obtain ⟨hdl, hal⟩ := trodAll_len hA
  have hc := hcall W base args.toList ds before (fun j t v h1 h2 => hval j t v (by simpa using h1) (by simpa using h2)) hA
  rw [Array.toArray_toList] at hc
  refine hc.mono fun e W' ⟨he, hb⟩ => ⟨.bool true, he, ?_⟩
  have hsd : s.fn H (ds ++ []) = { results := [.lit (.bool true)], args := ds } := by rw [List.append_nil]; exact hs ds hdl
  have hold : ∀ p ∈ before, (fun b => decide (b < W.heap.size)) p.block = true := fun p hp => by simpa using hlt p hp
  refine ⟨ds, [], before, [], before, [], hW', ?_, ?_, ?_, keptBut_of_below hb _, fun h => by cases h⟩
  · rw [hsd, hres]
    exact trodAll_mk1 (shut_bool hub _)
  · rw [hsd]
    exact trodAll_stays hl hb hts hA hlt hold
  · rw [hsd, hv]
    rfl
end
end Go.AM
end

/-
  The abstract machine, part 16: which loop of a function is meant.
-/
section
namespace Go.AM

def Loops.set (Lp : Loops) (k : Nat) (F : ASt → Tr (Ex × ASt)) : Loops := fun g => match Nat.beq g k with
  | true => some F
  | false => Lp g

def loopsOf (fn : Func) : List (Nat × Code) := match fn.body with
  | some c => loopsIn c
  | none => []

def codeOf : List (Nat × Code) → Nat → Code
  | [], _ => .skip
  | (k, c) :: r, n => match Nat.beq k n with
    | true => c
    | false => codeOf r n

def loopAt (fn : Func) (k : Nat) : Code := codeOf (loopsOf fn) k

def oneLoop : List (Nat × Code) → Nat → Bool
  | [], _ => true
  | (k, _) :: r, n => match Nat.beq k n with
    | true => r.all fun p => !Nat.beq p.1 n
    | false => oneLoop r n

theorem codeOf_mem : ∀ {l : List (Nat × Code)} {n : Nat} {p : Nat × Code}, oneLoop l n = true → p ∈ l → p.1 = n → p.2 = codeOf l n
  | [], _, _, _, h, _ => by simp at h
  | (k, c) :: r, n, p, h, hp, hn => by
    simp only [oneLoop] at h
    simp only [codeOf]
    cases hk : Nat.beq k n with
    | true =>
      simp only [hk] at h ⊢
      rcases List.mem_cons.1 hp with rfl | hp
      · rfl
      · have := List.all_eq_true.1 h p hp
        simp [hn] at this
    | false =>
      simp only [hk] at h ⊢
      rcases List.mem_cons.1 hp with rfl | hp
      · simp only at hn
        subst hn
        simp at hk
      · exact codeOf_mem h hp hn

theorem loopsFn_set {P : Program} {kb : Nat} {Lp : Loops} {fn : Func} {k : Nat} {F : ASt → Tr (Ex × ASt)} (hL : LoopsFn P kb Lp fn) (h1 : oneLoop (loopsOf fn) k = true) (h2 : LoopF P kb (loopAt fn k) F) : LoopsFn P kb (Lp.set k F) fn := by
  intro c hc p hp F' hF'
  unfold Loops.set at hF'
  cases hk : Nat.beq p.1 k with
  | true =>
    simp only [hk] at hF'
    obtain rfl := Option.some.inj hF'
    have e : loopsOf fn = loopsIn c := by simp [loopsOf, hc]
    have := codeOf_mem h1 (e ▸ hp) (Nat.eq_of_beq_eq_true hk)
    rw [this]
    exact h2
  | false =>
    simp only [hk] at hF'
    exact hL c hc p hp F' hF'

theorem loopsIn_sub : ∀ {c : Code} {p q : Nat × Code}, p ∈ loopsIn c → q ∈ loopsIn p.2 → q ∈ loopsIn c
  | .seq a b, p, q, hp, hq => by
    simp only [loopsIn, List.mem_append] at hp ⊢
    exact hp.imp (fun h => loopsIn_sub h hq) (fun h => loopsIn_sub h hq)
  | .cond _ a b, p, q, hp, hq => by
    simp only [loopsIn, List.mem_append] at hp ⊢
    exact hp.imp (fun h => loopsIn_sub h hq) (fun h => loopsIn_sub h hq)
  | .block _ c, p, q, hp, hq => by simp only [loopsIn] at hp ⊢; exact loopsIn_sub hp hq
  | .scope c, p, q, hp, hq => by simp only [loopsIn] at hp ⊢; exact loopsIn_sub hp hq
  | .loop c, p, q, hp, hq => by
    simp only [loopsIn, List.mem_append] at hp ⊢
    rcases hp with hp | hp
    · split at hp
      · simp only [List.mem_singleton] at hp
        subst hp
        exact .inr hq
      · simp at hp
    · exact .inr (loopsIn_sub hp hq)
  | .skip, _, _, hp, _ => by simp [loopsIn] at hp
  | .label _, _, _, hp, _ => by simp [loopsIn] at hp
  | .region .., _, _, hp, _ => by simp [loopsIn] at hp
  | .exit _, _, _, hp, _ => by simp [loopsIn] at hp
  | .ret, _, _, hp, _ => by simp [loopsIn] at hp
  | .rangeFunc .., _, _, hp, _ => by simp [loopsIn] at hp
  | .goto _, _, _, hp, _ => by simp [loopsIn] at hp
  | .refuse _, _, _, hp, _ => by simp [loopsIn] at hp

theorem codeOf_in : ∀ {l : List (Nat × Code)} {n : Nat}, codeOf l n = .skip ∨ (n, codeOf l n) ∈ l
  | [], _ => .inl rfl
  | (k, c) :: r, n => by
    simp only [codeOf]
    cases hk : Nat.beq k n with
    | true => have := Nat.eq_of_beq_eq_true hk; subst this; exact .inr (by simp)
    | false => exact (codeOf_in (l := r) (n := n)).imp id (fun h => by simp [h])

theorem loopsOK_at {P : Program} {kb : Nat} {Lp : Loops} {fn : Func} (hL : LoopsFn P kb Lp fn) (k : Nat) : LoopsOK P kb Lp (loopAt fn k) := by
  intro p hp F hF
  unfold loopAt at hp
  rcases codeOf_in (l := loopsOf fn) (n := k) with h | h
  · rw [h] at hp; simp [loopsIn] at hp
  · unfold loopsOf at h hp
    cases hb : fn.body with
    | none => simp [hb] at h
    | some c =>
      simp only [hb] at h hp
      exact hL c hb p (loopsIn_sub h hp) F hF

end Go.AM
end

/-
  The abstract machine, part 16: numbers: wrapping, shifts and bits as arithmetic.
-/
section
namespace Go.AM
open Go

theorem wrap_u64 {x : Int} (h0 : 0 ≤ x) (h1 : x < 18446744073709551616) : IntKind.u64.wrap x = x := by
  simp [IntKind.wrap, IntKind.bits, IntKind.signed]; omega
theorem wrap_u32 {x : Int} (h0 : 0 ≤ x) (h1 : x < 4294967296) : IntKind.u32.wrap x = x := by
  simp [IntKind.wrap, IntKind.bits, IntKind.signed]; omega
theorem wrap_i64 {x : Int} (h0 : -9223372036854775808 ≤ x) (h1 : x < 9223372036854775808) : IntKind.i64.wrap x = x := by
  simp [IntKind.wrap, IntKind.bits, IntKind.signed]; omega
theorem wrap_u64_mod (x : Int) : IntKind.u64.wrap x = x % 18446744073709551616 := by
  simp [IntKind.wrap, IntKind.bits, IntKind.signed]
theorem wrap_u8_mod (x : Int) : IntKind.u8.wrap x = x % 256 := by
  simp [IntKind.wrap, IntKind.bits, IntKind.signed]
end Go.AM
end

/-
  Words: what 'word.Field' and 'word.With' compute, bit by bit.
-/
section
namespace Go.AM
open Go

/-! ### what the code computes (as the explorer prints it) -/

/-! ### in plain numbers -/

/-! ### the code's, in plain numbers -/

/-! ### bytes -/

end Go.AM
end

/-
  The abstract machine, part 17: what of the memory a function has to do with: shapes and what stands in them.
-/
section
namespace Go.AM

inductive At where
  | i (x : Int)
  | b (x : Bool)
  | n (x : Nat)
  | r (n : Nat) (g : Nat → Nat → Int)
  | q (n : Nat) (g : Nat → Nat → Int) (c0 wd : Nat) (h : Nat → Nat → Int)

def aI (l : List At) (i : Nat) : Int := match l[i]? with | some (.i x) => x | _ => 0
def aB (l : List At) (i : Nat) : Bool := match l[i]? with | some (.b x) => x | _ => false
def aN (l : List At) (i : Nat) : Nat := match l[i]? with | some (.n x) => x | _ => 0
def aRn (l : List At) (i : Nat) : Nat := match l[i]? with | some (.r n _) => n | some (.q n _ _ _ _) => n | _ => 0
def aRg (l : List At) (i : Nat) : Nat → Nat → Int := match l[i]? with | some (.r _ g) => g | some (.q _ g _ _ _) => g | _ => fun _ _ => 0
def aMh (l : List At) (i c0 wd : Nat) : Nat → Nat → Int :=
  match l[i]? with
  | some (.q _ _ c0' wd' h) => match Nat.beq c0 c0', Nat.beq wd wd' with
    | true, true => h
    | _, _ => fun _ _ => 0
  | _ => fun _ _ => 0

inductive Sh where
  | k (sk : SK)
  | p (id o : Nat)
  | pr (id wd c : Nat)
  | sw (id wd : Nat)
  | sq (id wd : Nat)
  | vw (id wd : Nat)
  | opq (id : Nat)
  | ms (id f wd : Nat)
  | vz (id wd : Nat)
  | pnil
  | slnil
  | fnil
  | fn (f : FuncId) (caps : List (Nat × Nat))

inductive BSh where
  | no
  | cells (l : List Sh)
  | roc (l : List Sh)
  | rows (ks : List SK) (own : Bool)
  | nrows (ks : List SK) (c0 : Nat) (ms : List SK) (f : Nat) (bel own : Bool)

def BSh.not : BSh → Bool
  | .no => true
  | _ => false

def BSh.mut : BSh → Bool
  | .cells _ => true
  | .rows _ own => own
  | .nrows _ _ _ _ _ own => own
  | _ => false

inductive TSh where
  | v (agg : Bool) (l : List Sh)
  | tup (l : List (Bool × List Sh))
  | any

structure FSh where
  vals : List TSh
  hp : List BSh

/-! ### what is made of a shape and what stands in it -/

def Sh.w : Sh → Nat
  | .k _ => 1
  | .pr .. => 1
  | .sq .. => 2
  | .ms .. => 3
  | _ => 0

def shsW : List Sh → Nat
  | [] => 0
  | s :: r => s.w + shsW r

def avsW : List (Bool × List Sh) → Nat
  | [] => 0
  | s :: r => shsW s.2 + avsW r

def TSh.w : TSh → Nat
  | .v _ l => shsW l
  | .tup l => avsW l
  | .any => 0

def tshsW : List TSh → Nat
  | [] => 0
  | s :: r => s.w + tshsW r

def BSh.w : BSh → Nat
  | .no => 0
  | .cells l => shsW l
  | .roc l => shsW l
  | .rows _ _ => 1
  | .nrows _ _ _ _ false _ => 1
  | .nrows _ _ _ _ true _ => 2

def mkSh (ns : List Nat) (l : List At) (i : Nat) : Sh → AS
  | .k .b => .b (aB l i)
  | .k (.n k) => .n k (aI l i)
  | .p id o => .p id o
  | .pr id wd c => .pr id wd (aN l i) c
  | .sw id wd => .slw id wd (ns.getD id 0)
  | .sq id wd => .slq id wd (aN l i) (aN l (i + 1))
  | .vw id wd => .slq id wd 0 (ns.getD id 0)
  | .opq id => .opq id
  | .ms id f wd => .mems id f wd (aN l i) (aN l (i + 1)) (aN l (i + 2))
  | .vz id wd => .slz id wd 0 (ns.getD id 0)
  | .pnil => .pnil
  | .slnil => .slnil
  | .fnil => .fnil
  | .fn f caps => .fn f caps

def mkShs (ns : List Nat) (l : List At) : Nat → List Sh → List AS
  | _, [] => []
  | i, s :: r => mkSh ns l i s :: mkShs ns l (i + s.w) r

def mkAVS (ns : List Nat) (l : List At) (i : Nat) : Bool × List Sh → AV
  | (true, r) => .agg (mkShs ns l i r)
  | (false, s :: _) => .s (mkSh ns l i s)
  | (false, []) => .agg []

def mkAVSs (ns : List Nat) (l : List At) : Nat → List (Bool × List Sh) → List AV
  | _, [] => []
  | i, s :: r => mkAVS ns l i s :: mkAVSs ns l (i + shsW s.2) r

def mkTV (ns : List Nat) (l : List At) (i : Nat) : TSh → TV
  | .v b r => .v (mkAVS ns l i (b, r))
  | .tup r => .tup (mkAVSs ns l i r)
  | .any => .any

def mkTVs (ns : List Nat) (l : List At) : Nat → List TSh → List TV
  | _, [] => []
  | i, s :: r => mkTV ns l i s :: mkTVs ns l (i + s.w) r

def mkNs (l : List At) : Nat → List BSh → List Nat
  | _, [] => []
  | i, s :: r => (match s with | .rows _ _ => aRn l i | .nrows _ _ _ _ false _ => aRn l i | .nrows _ _ _ _ true _ => aRn l (i + 1) | _ => 0) :: mkNs l (i + s.w) r

def mkB (ns : List Nat) (l : List At) (i : Nat) : BSh → Option Blk
  | .no => none
  | .cells r => some (.cells (mkShs ns l i r))
  | .roc r => some (.roc (mkShs ns l i r))
  | .rows ks own => some (.rows ks (aRn l i) (aRg l i) own)
  | .nrows ks c0 ms f false own => some (.nrows ks c0 ms (aRn l i) (aRg l i) (aMh l i c0 ms.length) f .all own)
  | .nrows ks c0 ms f true own => some (.nrows ks c0 ms (aRn l (i + 1)) (aRg l (i + 1)) (aMh l (i + 1) c0 ms.length) f (.below (aN l i)) own)

def mkBs (ns : List Nat) (l : List At) : Nat → List BSh → AH
  | _, [] => []
  | i, s :: r => mkB ns l i s :: mkBs ns l (i + s.w) r

def mkV (sh : FSh) (l : List At) : List TV := mkTVs (mkNs l (tshsW sh.vals) sh.hp) l 0 sh.vals
def mkH (sh : FSh) (l : List At) : AH := mkBs (mkNs l (tshsW sh.vals) sh.hp) l (tshsW sh.vals) sh.hp

/-! ### from a state to a shape: which block is which, and what stands in it -/

inductive Src where
  | blk (id : Nat)
  | view (id wd i len : Nat)
  | cview (id wd o len : Nat)
  | mview (id F wd i lo len : Nat)
  | fresh
  | opq (a : AS)

def Src.cid : Src → Option Nat
  | .blk c => some c
  | .view c _ _ _ => some c
  | .cview c _ _ _ => some c
  | .mview c _ _ _ _ _ => some c
  | _ => none

def bindId (σ : List Src) (id cid : Nat) : Option (List Src) :=
  match σ[id]? with
  | some (.blk c) => match Nat.beq c cid with
    | true => some σ
    | false => none
  | some _ => none
  | none => match Nat.beq id σ.length with
    | true => some (σ ++ [.blk cid])
    | false => none

def bindCaps : List Src → List (Nat × Nat) → List (Nat × Nat) → Option (List Src)
  | σ, [], [] => some σ
  | σ, (id, o) :: r, (cid, o') :: r' => match Nat.beq o o' with
    | true => match bindId σ id cid with
      | some σ' => bindCaps σ' r r'
      | none => none
    | false => none
  | _, _, _ => none

def isRows (bs : List BSh) (id : Nat) : Bool :=
  match bs[id]? with
  | some (.rows _ _) => true
  | some (.nrows ..) => true
  | _ => false

def opqOk : AS → Bool
  | .b _ | .n _ _ | .str _ | .opq _ | .slk .. | .sld .. | .slz .. | .mem .. | .mems .. | .mpx .. => false
  | _ => true

def takeS (bs : List BSh) (N : Nat) (σ : List Src) : Sh → AS → Option (List Src × List At)
  | .k .b, .b x => some (σ, [.b x])
  | .k (.n k), .n k' x => if k = k' then some (σ, [.i x]) else none
  | .p id o, .p cid o' => match Nat.beq o o' with
    | true => (bindId σ id cid).map fun σ' => (σ', [])
    | false => none
  | .pr id wd c, .pr cid wd' i c' => match Nat.beq wd wd', Nat.beq c c' with
    | true, true => (bindId σ id cid).map fun σ' => (σ', [.n i])
    | _, _ => none
  | .sw id wd, .slw cid wd' _ => match Nat.beq wd wd', isRows bs id with
    | true, true => (bindId σ id cid).map fun σ' => (σ', [])
    | _, _ => none
  | .sw id wd, .slk cid wd' _ _ => match Nat.beq wd wd', isRows bs id with
    | true, true => (bindId σ id cid).map fun σ' => (σ', [])
    | _, _ => none
  | .sw id _, .slnil => match Nat.beq id σ.length, isRows bs id with
    | true, true => some (σ ++ [.fresh], [])
    | _, _ => none
  | .sw id _, .sle => match Nat.beq id σ.length, isRows bs id with
    | true, true => some (σ ++ [.fresh], [])
    | _, _ => none
  | .sq id wd, a => match viewT (.v (.s a)) with
    | some (cid, wd', i, len) => match Nat.beq wd wd' with
      | true => match Nat.blt cid N with
        | true => (bindId σ id cid).map fun σ' => (σ', [.n i, .n len])
        | false => none
      | false => none
    | none => none
  | .vw id wd, a => match Nat.beq id σ.length, isRows bs id with
    | true, true => match viewT (.v (.s a)) with
      | some (cid, wd', i, len) => match Nat.beq wd wd' with
        | true => some (σ ++ [.view cid wd i len], [])
        | false => none
      | none => match a with
        | .sl cid wd' o len => match Nat.beq wd wd' with
          | true => some (σ ++ [.cview cid wd o len], [])
          | false => none
        | .mem cid F wd' i len => match Nat.beq wd wd' with
          | true => some (σ ++ [.mview cid F wd i 0 len], [])
          | false => none
        | .mems cid F wd' i lo len => match Nat.beq wd wd' with
          | true => some (σ ++ [.mview cid F wd i lo len], [])
          | false => none
        | .slnil => some (σ ++ [.fresh], [])
        | _ => none
    | _, _ => none
  | .ms id f wd, a => match viewM (.v (.s a)) with
    | some (cid, cF, wd', i, lo, len) => match Nat.beq wd wd', Nat.blt cid N, Nat.blt cF N with
      | true, true, true => match bindId σ id cid with
        | some σ1 => (bindId σ1 f cF).map fun σ2 => (σ2, [.n i, .n lo, .n len])
        | none => none
      | _, _, _ => none
    | none => none
  | .opq id, .opq cid => (bindId σ id cid).map fun σ' => (σ', [])
  | .opq id, a => match Nat.beq id σ.length, opqOk a with
    | true, true => some (σ ++ [.opq a], [])
    | _, _ => none
  | .pnil, .pnil => some (σ, [])
  | .slnil, .slnil => some (σ, [])
  | .fnil, .fnil => some (σ, [])
  | .fn f caps, .fn f' caps' => match Nat.beq f f' with
    | true => (bindCaps σ caps caps').map fun σ' => (σ', [])
    | false => none
  | _, _ => none

def takeL (bs : List BSh) (N : Nat) : List Src → List Sh → List AS → Option (List Src × List At)
  | σ, [], [] => some (σ, [])
  | σ, s :: r, a :: as => match takeS bs N σ s a with
    | some (σ1, x) => match takeL bs N σ1 r as with
      | some (σ2, y) => some (σ2, x ++ y)
      | none => none
    | none => none
  | _, _, _ => none

def takeA (bs : List BSh) (N : Nat) (σ : List Src) : Bool × List Sh → AV → Option (List Src × List At)
  | (true, r), .agg as => takeL bs N σ r as
  | (false, [s]), .s a => takeS bs N σ s a
  | _, _ => none

def takeAs (bs : List BSh) (N : Nat) : List Src → List (Bool × List Sh) → List AV → Option (List Src × List At)
  | σ, [], [] => some (σ, [])
  | σ, s :: r, a :: as => match takeA bs N σ s a with
    | some (σ1, x) => match takeAs bs N σ1 r as with
      | some (σ2, y) => some (σ2, x ++ y)
      | none => none
    | none => none
  | _, _, _ => none

def takeT (bs : List BSh) (N : Nat) (σ : List Src) : TSh → TV → Option (List Src × List At)
  | .v b r, .v a => takeA bs N σ (b, r) a
  | .v b r, .k c => takeA bs N σ (b, r) (.s (.b c))
  | .tup r, .tup as => takeAs bs N σ r as
  | .any, _ => some (σ, [])
  | _, _ => none

def takeTs (bs : List BSh) (N : Nat) : List Src → List TSh → List TV → Option (List Src × List At)
  | σ, [], [] => some (σ, [])
  | σ, s :: r, a :: as => match takeT bs N σ s a with
    | some (σ1, x) => match takeTs bs N σ1 r as with
      | some (σ2, y) => some (σ2, x ++ y)
      | none => none
    | none => none
  | _, _, _ => none

def takeB (H : AH) (bs : List BSh) (σ : List Src) : Src → BSh → Option (List Src × List At)
  | _, .no => some (σ, [])
  | .blk c, .cells r => match blk H c with
    | some (.cells as) => takeL bs H.length σ r as
    | _ => none
  | .blk c, .roc r => match blkC H c with
    | some (.cells as) => takeL bs H.length σ r as
    | _ => none
  | .blk c, .rows ks own => match blk H c with
    | some (.rows ks' n g own') => if ks = ks' ∧ (own = true → own' = true) then some (σ, [.r n g]) else none
    | _ => none
  | .view c wd i len, .rows ks false => match blk H c with
    | some (.rows ks' _ g _) => if ks = ks' ∧ wd = ks.length then some (σ, [.r len fun j cc => g (i + j) cc]) else none
    | _ => none
  | .cview c wd o len, .rows ks false => match blkC H c with
    | some (.cells l) => if wd = ks.length then match rowsOf ks (l.drop o) len with
        | some rs => some (σ, [.r len (rowsF rs)])
        | none => none
      else none
    | _ => none
  | .mview c F wd i lo len, .rows ks false => match blk H c with
    | some (.nrows _ _ ms _ _ h F' ow _) => if ks = ms ∧ wd = ks.length ∧ F = F' ∧ isAll ow = true then some (σ, [.r len fun j cc => h i ((lo + j) * wd + cc)]) else none
    | _ => none
  | .fresh, .rows _ _ => some (σ, [.r 0 fun _ _ => 0])
  | .blk c, .nrows ks c0 ms f bel own => match blk H c with
    | some (.nrows ks' c0' ms' n g h F ow own') => if ks = ks' ∧ c0 = c0' ∧ ms = ms' ∧ (own = true → own' = true) then
        match bel, ow with
        | false, .all => (bindId σ f F).map fun σ' => (σ', [.q n g c0 ms.length h])
        | true, .below k => (bindId σ f F).map fun σ' => (σ', [.n k, .q n g c0 ms.length h])
        | _, _ => none
      else none
    | _ => none
  | _, _ => none

def takeBs (H : AH) (bs : List BSh) : (j : Nat) → List BSh → List Src → Option (List Src × List At)
  | _, [], σ => some (σ, [])
  | j, b :: r, σ => match σ[j]? with
    | some s => match takeB H bs σ s b with
      | some (σ1, x) => match takeBs H bs (j + 1) r σ1 with
        | some (σ2, y) => some (σ2, x ++ y)
        | none => none
      | none => none
    | none => none

def apartS (s : Src) (b : BSh) : List Src → List BSh → Bool
  | s' :: r, b' :: r' => match (b.mut || b'.mut) && !b.not && !b'.not, s.cid, s'.cid with
    | true, some c, some c' => match Nat.beq c c' with
      | true => false
      | false => apartS s b r r'
    | _, _, _ => apartS s b r r'
  | _, _ => true

def apartSs : List Src → List BSh → Bool
  | s :: r, b :: r' => match apartS s b r r' with
    | true => apartSs r r'
    | false => false
  | _, _ => true

def firstK : Nat → Nat → List Src
  | _, 0 => []
  | i, n + 1 => .blk i :: firstK (i + 1) n

def takeF (k : Nat) (sh : FSh) (ts : List TV) (H : AH) : Option (List Src × List At) :=
  match takeTs sh.hp H.length (firstK 0 k) sh.vals ts with
  | some (σ1, x) => match takeBs H sh.hp 0 sh.hp σ1 with
    | some (σ2, y) => match Nat.beq σ2.length sh.hp.length, apartSs σ2 sh.hp with
      | true, true => some (σ2, x ++ y)
      | _, _ => none
    | none => none
  | none => none
end Go.AM
end

/-
  The abstract machine, part 18: what is taken out of a state stands for what the state stands for.
-/
section
namespace Go.AM

def SrcOK (φ : Phi) : Src → Loc → Prop
  | .blk c, L => φ[c]? = some L
  | .view c wd i len, L => (len = 0 ∧ L.sz = 0 ∧ L.n = 0) ∨ ∃ L1, φ[c]? = some L1 ∧ i + len ≤ L1.n ∧ L = ⟨L1.b, L1.base + i * wd, len * wd, len, .nil⟩
  | .cview c wd o len, L => (len = 0 ∧ L.sz = 0 ∧ L.n = 0) ∨ ∃ L1, φ[c]? = some L1 ∧ L = ⟨L1.b, L1.base + o, len * wd, len, .nil⟩
  | .mview c F wd i lo len, L => (len = 0 ∧ L.sz = 0 ∧ L.n = 0) ∨ ∃ L1 LF b o len0 cap0, φ[c]? = some L1 ∧ φ[F]? = some LF ∧ i < L1.n ∧ LF.x.mem i = .slice (some ⟨b, o, none⟩) len0 cap0 ∧ lo + len ≤ len0 ∧ L = ⟨b, o + lo * wd, len * wd, len, .nil⟩
  | .fresh, L => L.sz = 0 ∧ L.n = 0
  | .opq a, L => relS φ a L.x.val

def shRel (bs : List BSh) (φ : Phi) : Sh → List At → Value → Prop
  | .k .b, [.b x], v => v = .bool x
  | .k (.n k), [.i x], v => v = .int k x
  | .p id o, [], v => relS φ (.p id o) v
  | .pr id wd c, [.n i], v => relS φ (.pr id wd i c) v
  | .sw id wd, [], v => ∃ L, φ[id]? = some L ∧ relS φ (.slw id wd L.n) v ∧ isRows bs id = true
  | .sq id wd, [.n i, .n len], v => relS φ (.slq id wd i len) v
  | .vw id wd, [], v => ∃ L, φ[id]? = some L ∧ relS φ (.slq id wd 0 L.n) v ∧ isRows bs id = true
  | .opq id, [], v => relS φ (.opq id) v
  | .ms id f wd, [.n i, .n lo, .n len], v => relS φ (.mems id f wd i lo len) v
  | .vz id wd, [], v => ∃ L, φ[id]? = some L ∧ relS φ (.slz id wd 0 L.n) v ∧ isRows bs id = true
  | .pnil, [], v => v = .pointer none
  | .slnil, [], v => v = .slice none 0 0
  | .fnil, [], v => v = .nilFunc
  | .fn f caps, [], v => relS φ (.fn f caps) v
  | _, _, _ => False

def shRels (bs : List BSh) (φ : Phi) : List Sh → List At → List Value → Prop
  | [], as, vs => as = [] ∧ vs = []
  | s :: r, as, vs => ∃ a1 a2 v vs', as = a1 ++ a2 ∧ vs = v :: vs' ∧ shRel bs φ s a1 v ∧ shRels bs φ r a2 vs'

theorem shRel.mono {bs : List BSh} {φ : Phi} (ψ : Phi) {s : Sh} {as : List At} {v : Value} (h : shRel bs φ s as v) : shRel bs (φ ++ ψ) s as v := by
  unfold shRel at h ⊢
  split at h
  · exact h
  · exact h
  · exact relS.mono ψ h
  · exact relS.mono ψ h
  · obtain ⟨L, h1, h2, h3⟩ := h; exact ⟨L, get_prefix h1, relS.mono ψ h2, h3⟩
  · exact relS.mono ψ h
  · obtain ⟨L, h1, h2, h3⟩ := h; exact ⟨L, get_prefix h1, relS.mono ψ h2, h3⟩
  · exact relS.mono ψ h
  · exact relS.mono ψ h
  · obtain ⟨L, h1, h2, h3⟩ := h; exact ⟨L, get_prefix h1, relS.mono ψ h2, h3⟩
  · exact h
  · exact h
  · exact h
  · exact relS.mono ψ h
  · exact h.elim

theorem shRels.mono {bs : List BSh} {φ : Phi} (ψ : Phi) : ∀ {s : List Sh} {as : List At} {vs : List Value}, shRels bs φ s as vs → shRels bs (φ ++ ψ) s as vs
  | [], _, _, h => h
  | _ :: _, _, _, ⟨a1, a2, v, vs', h1, h2, h3, h4⟩ => ⟨a1, a2, v, vs', h1, h2, h3.mono ψ, shRels.mono ψ h4⟩

section
variable {φ : Phi} {H : AH} {bs : List BSh}

theorem push_src {σ : List Src} {φσ : Phi} (h : All2 (SrcOK φ) σ φσ) {s : Src} {L : Loc} (hs : SrcOK φ s L) : All2 (SrcOK φ) (σ ++ [s]) (φσ ++ [L]) ∧ (φσ ++ [L])[σ.length]? = some L := by
  refine ⟨h.append ⟨hs, trivial⟩, ?_⟩
  rw [h.length_eq]; simp

theorem bindId_sound {σ σ' : List Src} {φσ : Phi} {id cid : Nat} {L : Loc} (h : bindId σ id cid = some σ') (hσ : All2 (SrcOK φ) σ φσ) (hL : φ[cid]? = some L) :
    ∃ ψ, All2 (SrcOK φ) σ' (φσ ++ ψ) ∧ (φσ ++ ψ)[id]? = some L ∧ ∃ τ, σ' = σ ++ τ := by
  unfold bindId at h
  split at h
  · rename_i c hc
    split at h
    · rename_i hb
      obtain rfl := Option.some.inj h
      have := Nat.eq_of_beq_eq_true hb
      subst this
      obtain ⟨L', h1, h2⟩ := hσ.get hc
      simp only [SrcOK] at h2
      rw [hL] at h2; cases h2
      exact ⟨[], by simpa using hσ, by simpa using h1, [], by simp⟩
    · cases h
  · cases h
  · split at h
    · rename_i hb
      obtain rfl := Option.some.inj h
      have := Nat.eq_of_beq_eq_true hb
      subst this
      obtain ⟨h1, h2⟩ := push_src (s := .blk cid) hσ hL
      exact ⟨[L], h1, h2, _, rfl⟩
    · cases h

theorem bindCaps_sound : ∀ {caps caps' : List (Nat × Nat)} {σ σ' : List Src} {φσ : Phi} {cs : List Value}, bindCaps σ caps caps' = some σ' → All2 (SrcOK φ) σ φσ →
    All2 (fun (c : Nat × Nat) u => ∃ L, φ[c.1]? = some L ∧ u = .pointer (some ⟨L.b, L.base + c.2, none⟩)) caps' cs →
    ∃ ψ, All2 (SrcOK φ) σ' (φσ ++ ψ) ∧ All2 (fun (c : Nat × Nat) u => ∃ L, (φσ ++ ψ)[c.1]? = some L ∧ u = .pointer (some ⟨L.b, L.base + c.2, none⟩)) caps cs ∧ ∃ τ, σ' = σ ++ τ
  | [], [], σ, σ', φσ, cs, h, hσ, hc => by
    simp only [bindCaps, Option.some.injEq] at h
    subst h
    cases cs with
    | nil => exact ⟨[], by simpa using hσ, trivial, [], by simp⟩
    | cons _ _ => exact hc.elim
  | (id, o) :: r, (cid, o') :: r', σ, σ', φσ, cs, h, hσ, hc => by
    simp only [bindCaps] at h
    split at h
    · rename_i hb
      have := Nat.eq_of_beq_eq_true hb
      subst this
      split at h
      · rename_i σ1 h1
        cases cs with
        | nil => exact hc.elim
        | cons c cs =>
          obtain ⟨⟨L, hL, rfl⟩, hcs⟩ := hc
          obtain ⟨ψ, e1, e2, τ, e3⟩ := bindId_sound h1 hσ hL
          obtain ⟨ψ', f1, f2, τ', f3⟩ := bindCaps_sound h e1 hcs
          refine ⟨ψ ++ ψ', by rw [← List.append_assoc]; exact f1, ?_, τ ++ τ', by rw [f3, e3]; simp⟩
          rw [← List.append_assoc]
          exact ⟨⟨L, get_prefix e2, rfl⟩, f2⟩
      · cases h
    · cases h
  | [], _ :: _, _, _, _, _, h, _, _ => by simp [bindCaps] at h
  | _ :: _, [], _, _, _, _, h, _, _ => by simp [bindCaps] at h

theorem opq_fresh {a : AS} {v : Value} (ha : opqOk a = true) (h : relS φ a v) : v.oneCell' = true ∧ (∀ k n, v ≠ .int k n) ∧ ∀ s, v ≠ .string s := by
  refine ⟨relS.oneCell h, fun k n => ?_, fun s => ?_⟩
  · cases a <;> simp [opqOk] at ha <;> simp only [relS] at h
    case p => obtain ⟨_, _, rfl⟩ := h; simp
    case pr => obtain ⟨_, _, _, rfl⟩ := h; simp
    case px => obtain ⟨_, _, _, _, rfl⟩ := h; simp
    case pnil => subst h; simp
    case sl => rcases h with ⟨_, _, rfl⟩ | ⟨_, _, _, _, rfl⟩ <;> simp
    case slr => rcases h with ⟨_, _, _, rfl⟩ | ⟨_, _, _, _, _, _, _, rfl⟩ <;> simp
    case slc => rcases h with ⟨_, _, rfl⟩ | ⟨_, _, _, _, rfl⟩ <;> simp
    case slq => rcases h with ⟨_, _, rfl⟩ | ⟨_, _, _, _, _, rfl⟩ <;> simp
    case slw => rcases h with ⟨_, _, _, ⟨_, _, rfl⟩ | ⟨_, _, _, rfl⟩⟩ <;> simp
    case slnil => subst h; simp
    case sle => obtain ⟨_, rfl⟩ := h; simp
    case fn => obtain ⟨_, rfl, _⟩ := h; simp
    case fnil => subst h; simp
  · cases a <;> simp [opqOk] at ha <;> simp only [relS] at h
    case p => obtain ⟨_, _, rfl⟩ := h; simp
    case pr => obtain ⟨_, _, _, rfl⟩ := h; simp
    case px => obtain ⟨_, _, _, _, rfl⟩ := h; simp
    case pnil => subst h; simp
    case sl => rcases h with ⟨_, _, rfl⟩ | ⟨_, _, _, _, rfl⟩ <;> simp
    case slr => rcases h with ⟨_, _, _, rfl⟩ | ⟨_, _, _, _, _, _, _, rfl⟩ <;> simp
    case slc => rcases h with ⟨_, _, rfl⟩ | ⟨_, _, _, _, rfl⟩ <;> simp
    case slq => rcases h with ⟨_, _, rfl⟩ | ⟨_, _, _, _, _, rfl⟩ <;> simp
    case slw => rcases h with ⟨_, _, _, ⟨_, _, rfl⟩ | ⟨_, _, _, rfl⟩⟩ <;> simp
    case slnil => subst h; simp
    case sle => obtain ⟨_, rfl⟩ := h; simp
    case fn => obtain ⟨_, rfl, _⟩ := h; simp
    case fnil => subst h; simp

def Taken (φ : Phi) (σ σ' : List Src) (φσ : Phi) (R : Phi → Prop) : Prop := ∃ ψ, All2 (SrcOK φ) σ' (φσ ++ ψ) ∧ R (φσ ++ ψ) ∧ ∃ τ, σ' = σ ++ τ

theorem taken_bind {σ σ' : List Src} {φσ : Phi} {id cid : Nat} {as as' : List At} {L : Loc} {R : Phi → Prop} (h : (bindId σ id cid).map (fun σ' => (σ', as')) = some (σ', as)) (hσ : All2 (SrcOK φ) σ φσ) (hL : φ[cid]? = some L)
    (hR : ∀ φ1, φ1[id]? = some L → as = as' → R φ1) : Taken φ σ σ' φσ R := by
  obtain ⟨σ1, h1, h2⟩ := Option.map_eq_some_iff.1 h
  simp only [Prod.mk.injEq] at h2
  obtain ⟨rfl, rfl⟩ := h2
  obtain ⟨ψ, e1, e2, τ, e3⟩ := bindId_sound h1 hσ hL
  exact ⟨ψ, e1, hR _ e2 rfl, τ, e3⟩

theorem taken_push {σ : List Src} {φσ : Phi} {s : Src} {L : Loc} {R : Phi → Prop} (hσ : All2 (SrcOK φ) σ φσ) (hs : SrcOK φ s L) (hR : ∀ φ1, φ1[σ.length]? = some L → R φ1) : Taken φ σ (σ ++ [s]) φσ R := by
  obtain ⟨h1, h2⟩ := push_src hσ hs
  exact ⟨[L], h1, hR _ h2, _, rfl⟩

theorem taken_same {σ : List Src} {φσ : Phi} {R : Phi → Prop} (hσ : All2 (SrcOK φ) σ φσ) (hR : R φσ) : Taken φ σ σ φσ R := ⟨[], by simpa using hσ, by simpa using hR, [], by simp⟩

theorem taken_bind0 {σ σ' : List Src} {φσ : Phi} {id cid : Nat} {as as' : List At} {R : Phi → Prop} (h : (bindId σ id cid).map (fun σ' => (σ', as')) = some (σ', as)) (hσ : All2 (SrcOK φ) σ φσ) (hL : ∃ L, φ[cid]? = some L)
    (hR : ∀ φ1, as = as' → R φ1) : Taken φ σ σ' φσ R := by
  obtain ⟨L, hL⟩ := hL
  exact taken_bind h hσ hL fun φ1 _ e => hR φ1 e

theorem get_of_len {φ : Phi} {N id : Nat} (hN : φ.length = N) (h : id < N) : ∃ L, φ[id]? = some L := ⟨φ[id]'(by omega), List.getElem?_eq_getElem (by omega)⟩

theorem taken_mview {σ : List Src} {φσ : Phi} {cid F wd i lo len : Nat} {v : Value} (hσ : All2 (SrcOK φ) σ φσ) (hv : relS φ (.mems cid F wd i lo len) v) (hrw : isRows bs σ.length = true) :
    Taken φ σ (σ ++ [.mview cid F wd i lo len]) φσ fun φ1 => shRel bs φ1 (.vw σ.length wd) [] v := by
  rcases hv with ⟨h0, a0, rfl⟩ | ⟨L, LF, b, o, l0, c0, cap, hL, hF, hin, hm, hll, hle, rfl⟩
  · refine taken_push (L := ⟨0, 0, 0, 0, .nil⟩) hσ (.inl ⟨h0, rfl, rfl⟩) fun φ1 h1 => ?_
    exact ⟨_, h1, .inl ⟨rfl, a0, rfl⟩, hrw⟩
  · refine taken_push (L := ⟨b, o + lo * wd, len * wd, len, .nil⟩) hσ (.inr ⟨L, LF, b, o, l0, c0, hL, hF, hin, hm, hll, rfl⟩) fun φ1 h1 => ?_
    exact ⟨_, h1, .inr ⟨_, cap, h1, hle, by simp, by simp⟩, hrw⟩

theorem takeS_sound {N : Nat} (hN : φ.length = N) {σ σ' : List Src} {φσ : Phi} {s : Sh} {a : AS} {as : List At} {v : Value} (h : takeS bs N σ s a = some (σ', as)) (hσ : All2 (SrcOK φ) σ φσ) (hv : relS φ a v) :
    Taken φ σ σ' φσ fun φ1 => shRel bs φ1 s as v := by
  unfold takeS at h
  split at h
  · cases h; exact taken_same hσ hv
  · split at h
    · rename_i hk; subst hk; cases h; exact taken_same hσ hv
    · cases h
  · rename_i id o cid o'
    split at h
    · rename_i hb
      have := Nat.eq_of_beq_eq_true hb
      subst this
      obtain ⟨L, hL, rfl⟩ := hv
      refine taken_bind h hσ hL fun φ1 h1 e => ?_
      subst e
      exact ⟨L, h1, rfl⟩
    · cases h
  · rename_i id wd c cid wd' i c'
    split at h
    · rename_i hb hb'
      have := Nat.eq_of_beq_eq_true hb
      subst this
      have := Nat.eq_of_beq_eq_true hb'
      subst this
      obtain ⟨L, hL, hi, rfl⟩ := hv
      refine taken_bind h hσ hL fun φ1 h1 e => ?_
      subst e
      exact ⟨L, h1, hi, rfl⟩
    · cases h
  · rename_i id wd cid wd' n
    split at h
    · rename_i hb hrw
      have := Nat.eq_of_beq_eq_true hb
      subst this
      obtain ⟨L, hL, hn, hv⟩ := hv
      subst hn
      refine taken_bind h hσ hL fun φ1 h1 e => ?_
      subst e
      exact ⟨L, h1, ⟨L, h1, rfl, hv⟩, hrw⟩
    · cases h
  · rename_i id wd cid wd' n cp
    split at h
    · rename_i hb hrw
      have := Nat.eq_of_beq_eq_true hb
      subst this
      obtain ⟨L, hL, hn, hv⟩ := slw_of_slk hv
      subst hn
      refine taken_bind h hσ hL fun φ1 h1 e => ?_
      subst e
      exact ⟨L, h1, ⟨L, h1, rfl, hv⟩, hrw⟩
    · cases h
  · rename_i id wd
    split at h
    · rename_i hb hrw
      have := Nat.eq_of_beq_eq_true hb
      subst this
      cases h
      simp only [relS] at hv
      subst hv
      refine taken_push (L := ⟨0, 0, 0, 0, .nil⟩) hσ ⟨rfl, rfl⟩ fun φ1 h1 => ?_
      exact ⟨_, h1, ⟨_, h1, rfl, .inl ⟨rfl, none, rfl⟩⟩, hrw⟩
    · cases h
  · rename_i id wd
    split at h
    · rename_i hb hrw
      have := Nat.eq_of_beq_eq_true hb
      subst this
      cases h
      simp only [relS] at hv
      obtain ⟨a0, rfl⟩ := hv
      refine taken_push (L := ⟨0, 0, 0, 0, .nil⟩) hσ ⟨rfl, rfl⟩ fun φ1 h1 => ?_
      exact ⟨_, h1, ⟨_, h1, rfl, .inl ⟨rfl, some a0, rfl⟩⟩, hrw⟩
    · cases h
  · rename_i id wd
    split at h
    · rename_i cid wd' i len hvw
      split at h
      · rename_i hb
        have := Nat.eq_of_beq_eq_true hb
        subst this
        split at h
        · rename_i hlt
          have hlt : cid < N := by simpa using hlt
          rcases viewT_rel hvw hv with ⟨h0, a0, rfl⟩ | ⟨L, cap, hL, hle, hin, rfl⟩
          · refine taken_bind0 h hσ (get_of_len hN hlt) fun φ1 e => ?_
            subst e
            exact .inl ⟨h0, a0, rfl⟩
          · refine taken_bind h hσ hL fun φ1 h1 e => ?_
            subst e
            exact .inr ⟨L, cap, h1, hle, hin, rfl⟩
        · cases h
      · cases h
    · cases h
  · rename_i id wd
    split at h
    · rename_i hb hrw
      have := Nat.eq_of_beq_eq_true hb
      subst this
      split at h
      · rename_i cid wd' i len hvw
        split at h
        · rename_i hb
          have := Nat.eq_of_beq_eq_true hb
          subst this
          cases h
          rcases viewT_rel hvw hv with ⟨h0, a0, rfl⟩ | ⟨L, cap, hL, hle, hin, rfl⟩
          · refine taken_push (L := ⟨0, 0, 0, 0, .nil⟩) hσ (.inl ⟨h0, rfl, rfl⟩) fun φ1 h1 => ?_
            exact ⟨_, h1, .inl ⟨rfl, a0, rfl⟩, hrw⟩
          · refine taken_push (L := ⟨L.b, L.base + i * wd, len * wd, len, .nil⟩) hσ (.inr ⟨L, hL, hin, rfl⟩) fun φ1 h1 => ?_
            exact ⟨_, h1, .inr ⟨_, cap, h1, hle, by simp, by simp⟩, hrw⟩
        · cases h
      · split at h
        · rename_i cid wd' o len _
          split at h
          · rename_i hb
            have := Nat.eq_of_beq_eq_true hb
            subst this
            cases h
            rcases hv with ⟨h0, a0, rfl⟩ | ⟨L, cap, hL, hle, rfl⟩
            · refine taken_push (L := ⟨0, 0, 0, 0, .nil⟩) hσ (.inl ⟨h0, rfl, rfl⟩) fun φ1 h1 => ?_
              exact ⟨_, h1, .inl ⟨rfl, a0, rfl⟩, hrw⟩
            · refine taken_push (L := ⟨L.b, L.base + o, len * wd, len, .nil⟩) hσ (.inr ⟨L, hL, rfl⟩) fun φ1 h1 => ?_
              exact ⟨_, h1, .inr ⟨_, cap, h1, hle, by simp, by simp⟩, hrw⟩
          · cases h
        · rename_i cid F wd' i len _
          split at h
          · rename_i hb
            have := Nat.eq_of_beq_eq_true hb
            subst this
            cases h
            exact taken_mview hσ (mems_of_mem hv) hrw
          · cases h
        · rename_i cid F wd' i lo len _
          split at h
          · rename_i hb
            have := Nat.eq_of_beq_eq_true hb
            subst this
            cases h
            exact taken_mview hσ hv hrw
          · cases h
        · cases h
          simp only [relS] at hv
          subst hv
          refine taken_push (L := ⟨0, 0, 0, 0, .nil⟩) hσ ⟨rfl, rfl⟩ fun φ1 h1 => ?_
          exact ⟨_, h1, .inl ⟨rfl, none, rfl⟩, hrw⟩
        · cases h
    · cases h
  · rename_i id f wd
    split at h
    · rename_i cid cF wd' i lo len hvw
      split at h
      · rename_i hb hlt hltF
        have := Nat.eq_of_beq_eq_true hb
        subst this
        have hlt : cid < N := by simpa using hlt
        have hltF : cF < N := by simpa using hltF
        split at h
        · rename_i σ1 hσ1
          obtain ⟨σ2, h1, h2⟩ := Option.map_eq_some_iff.1 h
          simp only [Prod.mk.injEq] at h2
          obtain ⟨rfl, rfl⟩ := h2
          obtain ⟨L, hL⟩ := get_of_len hN hlt
          obtain ⟨LF, hLF⟩ := get_of_len hN hltF
          obtain ⟨ψ, e1, e2, τ, e3⟩ := bindId_sound hσ1 hσ hL
          obtain ⟨ψ', f1, f2, τ', f3⟩ := bindId_sound h1 e1 hLF
          refine ⟨ψ ++ ψ', by rw [← List.append_assoc]; exact f1, ?_, τ ++ τ', by rw [f3, e3]; simp⟩
          rw [← List.append_assoc]
          rcases viewM_rel hvw hv with hz | ⟨L', LF', b, o, l0, c0, cap, hL', hF', hin, hm, hll, hle, rfl⟩
          · exact .inl hz
          · rw [hL] at hL'; cases hL'
            rw [hLF] at hF'; cases hF'
            exact .inr ⟨L, LF, b, o, l0, c0, cap, get_prefix e2, f2, hin, hm, hll, hle, rfl⟩
        · cases h
      · cases h
    · cases h
  · rename_i id cid
    obtain ⟨L, hL, hv⟩ := hv
    refine taken_bind h hσ hL fun φ1 h1 e => ?_
    subst e
    exact ⟨L, h1, hv⟩
  · rename_i id _
    split at h
    · rename_i hb hk
      have := Nat.eq_of_beq_eq_true hb
      subst this
      cases h
      refine taken_push (L := ⟨0, 0, 0, 0, ⟨v, fun _ => .tuple #[]⟩⟩) hσ hv fun φ1 h1 => ?_
      exact ⟨_, h1, rfl, opq_fresh hk hv⟩
    · cases h
  · cases h; exact taken_same hσ hv
  · cases h; exact taken_same hσ hv
  · cases h; exact taken_same hσ hv
  · rename_i f caps f' caps'
    split at h
    · rename_i hb
      have := Nat.eq_of_beq_eq_true hb
      subst this
      obtain ⟨σ1, h1, h2⟩ := Option.map_eq_some_iff.1 h
      simp only [Prod.mk.injEq] at h2
      obtain ⟨rfl, rfl⟩ := h2
      obtain ⟨cs, rfl, hcs⟩ := hv
      obtain ⟨ψ, e1, e2, τ, e3⟩ := bindCaps_sound h1 hσ hcs
      exact ⟨ψ, e1, ⟨cs, rfl, e2⟩, τ, e3⟩
    · cases h
  · cases h

theorem takeL_sound {N : Nat} (hN : φ.length = N) : ∀ {ss : List Sh} {as : List AS} {σ σ' : List Src} {φσ : Phi} {l : List At} {vs : List Value}, takeL bs N σ ss as = some (σ', l) → All2 (SrcOK φ) σ φσ → All2 (relS φ) as vs →
    (Taken φ σ σ' φσ fun φ1 => shRels bs φ1 ss l vs) ∧ ss.length = as.length
  | [], [], σ, σ', φσ, l, vs, h, hσ, hv => by
    cases h
    cases vs with
    | nil => exact ⟨taken_same hσ ⟨rfl, rfl⟩, rfl⟩
    | cons _ _ => exact hv.elim
  | s :: ss, a :: as, σ, σ', φσ, l, vs, h, hσ, hv => by
    simp only [takeL] at h
    split at h
    · rename_i σ1 x h1
      split at h
      · rename_i σ2 y h2
        cases h
        cases vs with
        | nil => exact hv.elim
        | cons v vs =>
          obtain ⟨ψ, e1, e2, τ, e3⟩ := takeS_sound hN h1 hσ hv.1
          obtain ⟨⟨ψ', f1, f2, τ', f3⟩, f4⟩ := takeL_sound hN h2 e1 hv.2
          refine ⟨⟨ψ ++ ψ', by rw [← List.append_assoc]; exact f1, ⟨x, y, v, vs, rfl, rfl, ?_, by rw [← List.append_assoc]; exact f2⟩, τ ++ τ', by rw [f3, e3]; simp⟩, by simp [f4]⟩
          rw [← List.append_assoc]
          exact e2.mono ψ'
      · cases h
    · cases h
  | [], _ :: _, _, _, _, _, _, h, _, _ => by simp [takeL] at h
  | _ :: _, [], _, _, _, _, _, h, _, _ => by simp [takeL] at h

def avRel (bs : List BSh) (φ : Phi) : Bool × List Sh → List At → Value → Prop
  | (true, r), as, v => ∃ cs : Array Value, v = .agg cs ∧ shRels bs φ r as cs.toList
  | (false, [s]), as, v => shRel bs φ s as v
  | _, _, _ => False

def avRels (bs : List BSh) (φ : Phi) : List (Bool × List Sh) → List At → List Value → Prop
  | [], as, vs => as = [] ∧ vs = []
  | s :: r, as, vs => ∃ a1 a2 v vs', as = a1 ++ a2 ∧ vs = v :: vs' ∧ avRel bs φ s a1 v ∧ avRels bs φ r a2 vs'

def tRel (bs : List BSh) (φ : Phi) : TSh → List At → Value → Prop
  | .v b r, as, v => avRel bs φ (b, r) as v
  | .tup r, as, v => ∃ vs : Array Value, v = .tuple vs ∧ avRels bs φ r as vs.toList
  | .any, as, _ => as = []

def tRels (bs : List BSh) (φ : Phi) : List TSh → List At → List Value → Prop
  | [], as, vs => as = [] ∧ vs = []
  | s :: r, as, vs => ∃ a1 a2 v vs', as = a1 ++ a2 ∧ vs = v :: vs' ∧ tRel bs φ s a1 v ∧ tRels bs φ r a2 vs'

theorem avRel.mono {bs : List BSh} {φ : Phi} (ψ : Phi) {s : Bool × List Sh} {as : List At} {v : Value} (h : avRel bs φ s as v) : avRel bs (φ ++ ψ) s as v := by
  unfold avRel at h ⊢
  split at h
  · obtain ⟨cs, h1, h2⟩ := h; exact ⟨cs, h1, h2.mono ψ⟩
  · exact h.mono ψ
  · exact h.elim

theorem avRels.mono {bs : List BSh} {φ : Phi} (ψ : Phi) : ∀ {s : List (Bool × List Sh)} {as : List At} {vs : List Value}, avRels bs φ s as vs → avRels bs (φ ++ ψ) s as vs
  | [], _, _, h => h
  | _ :: _, _, _, ⟨a1, a2, v, vs', h1, h2, h3, h4⟩ => ⟨a1, a2, v, vs', h1, h2, h3.mono ψ, avRels.mono ψ h4⟩

theorem tRel.mono {bs : List BSh} {φ : Phi} (ψ : Phi) {s : TSh} {as : List At} {v : Value} (h : tRel bs φ s as v) : tRel bs (φ ++ ψ) s as v := by
  cases s with
  | v b r => exact avRel.mono ψ h
  | tup r => obtain ⟨vs, h1, h2⟩ := h; exact ⟨vs, h1, h2.mono ψ⟩
  | any => exact h

theorem tRels.mono {bs : List BSh} {φ : Phi} (ψ : Phi) : ∀ {s : List TSh} {as : List At} {vs : List Value}, tRels bs φ s as vs → tRels bs (φ ++ ψ) s as vs
  | [], _, _, h => h
  | _ :: _, _, _, ⟨a1, a2, v, vs', h1, h2, h3, h4⟩ => ⟨a1, a2, v, vs', h1, h2, h3.mono ψ, tRels.mono ψ h4⟩

theorem takeA_sound {N : Nat} (hN : φ.length = N) {s : Bool × List Sh} {a : AV} {σ σ' : List Src} {φσ : Phi} {l : List At} {v : Value} (h : takeA bs N σ s a = some (σ', l)) (hσ : All2 (SrcOK φ) σ φσ) (hv : relA φ a v) :
    Taken φ σ σ' φσ fun φ1 => avRel bs φ1 s l v := by
  unfold takeA at h
  split at h
  · obtain ⟨cs, rfl, hcs⟩ := hv
    obtain ⟨⟨ψ, e1, e2, e3⟩, _⟩ := takeL_sound hN h hσ hcs
    exact ⟨ψ, e1, ⟨cs, rfl, e2⟩, e3⟩
  · exact takeS_sound hN h hσ hv
  · cases h

theorem takeAs_sound {N : Nat} (hN : φ.length = N) : ∀ {ss : List (Bool × List Sh)} {as : List AV} {σ σ' : List Src} {φσ : Phi} {l : List At} {vs : List Value}, takeAs bs N σ ss as = some (σ', l) → All2 (SrcOK φ) σ φσ → All2 (relA φ) as vs →
    Taken φ σ σ' φσ fun φ1 => avRels bs φ1 ss l vs
  | [], [], σ, σ', φσ, l, vs, h, hσ, hv => by
    cases h
    cases vs with
    | nil => exact taken_same hσ ⟨rfl, rfl⟩
    | cons _ _ => exact hv.elim
  | s :: ss, a :: as, σ, σ', φσ, l, vs, h, hσ, hv => by
    simp only [takeAs] at h
    split at h
    · rename_i σ1 x h1
      split at h
      · rename_i σ2 y h2
        cases h
        cases vs with
        | nil => exact hv.elim
        | cons v vs =>
          obtain ⟨ψ, e1, e2, τ, e3⟩ := takeA_sound hN h1 hσ hv.1
          obtain ⟨ψ', f1, f2, τ', f3⟩ := takeAs_sound hN h2 e1 hv.2
          refine ⟨ψ ++ ψ', by rw [← List.append_assoc]; exact f1, ⟨x, y, v, vs, rfl, rfl, ?_, by rw [← List.append_assoc]; exact f2⟩, τ ++ τ', by rw [f3, e3]; simp⟩
          rw [← List.append_assoc]
          exact e2.mono ψ'
      · cases h
    · cases h
  | [], _ :: _, _, _, _, _, _, h, _, _ => by simp [takeAs] at h
  | _ :: _, [], _, _, _, _, _, h, _, _ => by simp [takeAs] at h

theorem takeT_sound {N : Nat} (hN : φ.length = N) {s : TSh} {a : TV} {σ σ' : List Src} {φσ : Phi} {l : List At} {v : Value} (h : takeT bs N σ s a = some (σ', l)) (hσ : All2 (SrcOK φ) σ φσ) (hv : relT φ a v) :
    Taken φ σ σ' φσ fun φ1 => tRel bs φ1 s l v := by
  unfold takeT at h
  split at h
  · exact takeA_sound hN h hσ hv
  · rename_i b r c
    have hv' : relA φ (.s (.b c)) v := hv
    exact takeA_sound hN h hσ hv'
  · obtain ⟨vs, rfl, hvs⟩ := hv
    obtain ⟨ψ, e1, e2, e3⟩ := takeAs_sound hN h hσ hvs
    exact ⟨ψ, e1, ⟨vs, rfl, e2⟩, e3⟩
  · cases h; exact taken_same hσ rfl
  · cases h

theorem takeTs_sound {N : Nat} (hN : φ.length = N) : ∀ {ss : List TSh} {as : List TV} {σ σ' : List Src} {φσ : Phi} {l : List At} {vs : List Value}, takeTs bs N σ ss as = some (σ', l) → All2 (SrcOK φ) σ φσ → All2 (relT φ) as vs →
    Taken φ σ σ' φσ fun φ1 => tRels bs φ1 ss l vs
  | [], [], σ, σ', φσ, l, vs, h, hσ, hv => by
    cases h
    cases vs with
    | nil => exact taken_same hσ ⟨rfl, rfl⟩
    | cons _ _ => exact hv.elim
  | s :: ss, a :: as, σ, σ', φσ, l, vs, h, hσ, hv => by
    simp only [takeTs] at h
    split at h
    · rename_i σ1 x h1
      split at h
      · rename_i σ2 y h2
        cases h
        cases vs with
        | nil => exact hv.elim
        | cons v vs =>
          obtain ⟨ψ, e1, e2, τ, e3⟩ := takeT_sound hN h1 hσ hv.1
          obtain ⟨ψ', f1, f2, τ', f3⟩ := takeTs_sound hN h2 e1 hv.2
          refine ⟨ψ ++ ψ', by rw [← List.append_assoc]; exact f1, ⟨x, y, v, vs, rfl, rfl, ?_, by rw [← List.append_assoc]; exact f2⟩, τ ++ τ', by rw [f3, e3]; simp⟩
          rw [← List.append_assoc]
          exact e2.mono ψ'
      · cases h
    · cases h
  | [], _ :: _, _, _, _, _, _, h, _, _ => by simp [takeTs] at h
  | _ :: _, [], _, _, _, _, _, h, _, _ => by simp [takeTs] at h
end
end Go.AM
end

/-
  The abstract machine, part 19: the memory that is taken out of a state.
-/
section
namespace Go.AM

def AtIs (l : List At) (i : Nat) (as : List At) : Prop := ∀ (j : Nat) a, as[j]? = some a → l[i + j]? = some a

def bRel (bs : List BSh) (heap : Array Obj) (φ : Phi) (L : Loc) : BSh → List At → Prop
  | .no, as => as = []
  | .cells r, as => L.base = 0 ∧ L.sz = r.length ∧ ((r = [] ∧ as = []) ∨ ∃ cs t, heap[L.b]? = some (.cells cs t (0, 0)) ∧ shRels bs φ r as cs.toList)
  | .roc r, as => L.base = 0 ∧ L.sz = r.length ∧ ((r = [] ∧ as = []) ∨ ∃ cs t, heap[L.b]? = some (.cells cs t (0, 0)) ∧ shRels bs φ r as cs.toList)
  | .rows ks own, as => ∃ n g, as = [.r n g] ∧ L.n = n ∧ RepB φ L heap (.rows ks n g own)
  | .nrows ks c0 ms f false own, as => ∃ n g h, as = [.q n g c0 ms.length h] ∧ L.n = n ∧ RepB φ L heap (.nrows ks c0 ms n g h f .all own)
  | .nrows ks c0 ms f true own, as => ∃ n g h k, as = [.n k, .q n g c0 ms.length h] ∧ L.n = n ∧ RepB φ L heap (.nrows ks c0 ms n g h f (.below k) own)

theorem bRel.mono {bs : List BSh} {heap : Array Obj} {φ : Phi} (ψ : Phi) {L : Loc} {b : BSh} {as : List At} (h : bRel bs heap φ L b as) : bRel bs heap (φ ++ ψ) L b as := by
  cases b with
  | no => exact h
  | cells r =>
    obtain ⟨h1, h2, h3⟩ := h
    exact ⟨h1, h2, h3.imp id fun ⟨cs, t, h3, h4⟩ => ⟨cs, t, h3, h4.mono ψ⟩⟩
  | roc r =>
    obtain ⟨h1, h2, h3⟩ := h
    exact ⟨h1, h2, h3.imp id fun ⟨cs, t, h3, h4⟩ => ⟨cs, t, h3, h4.mono ψ⟩⟩
  | rows ks own =>
    obtain ⟨n, g, h1, h2, h3⟩ := h
    exact ⟨n, g, h1, h2, h3.mono ψ⟩
  | nrows ks c0 ms f bel own =>
    cases bel with
    | false => obtain ⟨n, g, h', h1, h2, h3⟩ := h; exact ⟨n, g, h', h1, h2, h3.mono ψ⟩
    | true => obtain ⟨n, g, h', k, h1, h2, h3⟩ := h; exact ⟨n, g, h', k, h1, h2, h3.mono ψ⟩

def FootOK (φ : Phi) (H : AH) (φ1 : Phi) (s : Src) (L : Loc) (b : BSh) (as : List At) : Prop :=
  ∀ (ψ : Phi) (x : Nat) (B : Blk) (ns : List Nat) (l : List At) (i : Nat), AtIs l i as → mkB ns l i b = some B → B.foot (φ1 ++ ψ) L x →
    ∃ c B0 L0, s.cid = some c ∧ H[c]? = some (some B0) ∧ φ[c]? = some L0 ∧ B0.foot φ L0 x ∧ (b.mut = true → B0.mut = true ∧ s = .blk c)

theorem FootOK.mono {φ : Phi} {H : AH} {φ1 : Phi} (ψ : Phi) {s : Src} {L : Loc} {b : BSh} {as : List At} (h : FootOK φ H φ1 s L b as) : FootOK φ H (φ1 ++ ψ) s L b as := by
  intro ψ' x B ns l i h1 h2 h3
  rw [List.append_assoc] at h3
  exact h (ψ ++ ψ') x B ns l i h1 h2 h3

theorem footOK_of {φ : Phi} {H : AH} {φ1 : Phi} {s : Src} {L : Loc} {b : BSh} {as : List At} (hb : ∀ ks c0 ms f bel own, b ≠ .nrows ks c0 ms f bel own)
    (h : ∀ x, b ≠ .no → 0 < L.sz → L.b = x → ∃ c B0 L0, s.cid = some c ∧ H[c]? = some (some B0) ∧ φ[c]? = some L0 ∧ B0.foot φ L0 x ∧ (b.mut = true → B0.mut = true ∧ s = .blk c)) : FootOK φ H φ1 s L b as := by
  intro ψ x B ns l i _ h2 h3
  cases b with
  | no => cases h2
  | cells r => cases h2; exact h x (by simp) h3.1 h3.2
  | roc r => cases h2; exact h x (by simp) h3.1 h3.2
  | rows ks own => cases h2; exact h x (by simp) h3.1 h3.2
  | nrows ks c0 ms f bel own => exact (hb _ _ _ _ _ _ rfl).elim

section
variable {φ : Phi} {H : AH} {bs : List BSh} {heap : Array Obj}

theorem blkC_some {id : Nat} {l : List AS} (h : blkC H id = some (.cells l)) : ∃ B, H[id]? = some (some B) ∧ (∀ φ L x, B.foot φ L x ↔ 0 < L.sz ∧ L.b = x) := by
  unfold blkC at h
  split at h
  · rename_i l' hb
    exact ⟨_, blk_some hb, fun φ L x => Iff.rfl⟩
  · exact ⟨_, blk_some h, fun φ L x => Iff.rfl⟩

theorem takeL_cells {N : Nat} (hN : φ.length = N) {r : List Sh} {as : List AS} {L : Loc} {σ σ' : List Src} {φσ : Phi} {l : List At} (h : takeL bs N σ r as = some (σ', l)) (hσ : All2 (SrcOK φ) σ φσ) (hB : RepB φ L heap (.cells as)) :
    Taken φ σ σ' φσ fun φ1 => L.base = 0 ∧ L.sz = r.length ∧ ((r = [] ∧ l = []) ∨ ∃ cs t, heap[L.b]? = some (.cells cs t (0, 0)) ∧ shRels bs φ1 r l cs.toList) := by
  obtain ⟨h1, h2, h3⟩ := hB
  rcases h3 with hz | ⟨cs, t, hc, hrel⟩
  · have e : as = [] := List.length_eq_zero_iff.1 (by omega)
    subst e
    obtain ⟨⟨ψ, e1, e2, e3⟩, e4⟩ := takeL_sound hN (vs := []) h hσ trivial
    have e : r = [] := List.length_eq_zero_iff.1 (by simpa using e4)
    subst e
    exact ⟨ψ, e1, ⟨h1, by simpa using h2, .inl ⟨rfl, e2.1⟩⟩, e3⟩
  · obtain ⟨⟨ψ, e1, e2, e3⟩, e4⟩ := takeL_sound hN h hσ hrel
    exact ⟨ψ, e1, ⟨h1, by omega, .inr ⟨cs, t, hc, e2⟩⟩, e3⟩

theorem rep_rows0 {ks : List SK} {g : Nat → Nat → Int} {own : Bool} {L : Loc} (h1 : L.sz = 0) (h2 : L.n = 0) : RepB φ L heap (.rows ks 0 g own) := ⟨h2, by omega, .inl h1⟩

theorem takeB_sound (hrep : Rep φ H heap) {σ σ' : List Src} {φσ : Phi} {s : Src} {b : BSh} {L : Loc} {l : List At} (h : takeB H bs σ s b = some (σ', l)) (hσ : All2 (SrcOK φ) σ φσ) (hs : SrcOK φ s L) :
    Taken φ σ σ' φσ fun φ1 => bRel bs heap φ1 L b l ∧ FootOK φ H φ1 s L b l := by
  have both : ∀ {R : Phi → Prop}, (∀ ks c0 ms f bel own, b ≠ .nrows ks c0 ms f bel own) → Taken φ σ σ' φσ R ∧ (∀ x, b ≠ .no → 0 < L.sz → L.b = x → ∃ c B0 L0, s.cid = some c ∧ H[c]? = some (some B0) ∧ φ[c]? = some L0 ∧ B0.foot φ L0 x ∧ (b.mut = true → B0.mut = true ∧ s = .blk c)) →
      Taken φ σ σ' φσ fun φ1 => R φ1 ∧ FootOK φ H φ1 s L b l := fun hb ⟨⟨ψ, e1, e2, e3⟩, hf⟩ => ⟨ψ, e1, ⟨e2, footOK_of hb hf⟩, e3⟩
  unfold takeB at h
  split at h
  · cases h
    exact both (by intros; simp) ⟨taken_same hσ rfl, fun x hb => (hb rfl).elim⟩
  · rename_i c r
    split at h
    · rename_i as hb
      obtain ⟨L', hL', hB⟩ := hrep.blk _ _ (blk_some hb)
      simp only [SrcOK] at hs
      rw [hs] at hL'; cases hL'
      exact both (by intros; simp) ⟨takeL_cells hrep.len h hσ hB, fun x _ hz e => ⟨c, _, L, rfl, blk_some hb, hs, ⟨hz, e⟩, fun _ => ⟨rfl, rfl⟩⟩⟩
    · cases h
  · rename_i c r
    split at h
    · rename_i as hb
      obtain ⟨L', hL', hB⟩ := rep_blkC hrep hb
      obtain ⟨B, hB1, hB2⟩ := blkC_some hb
      simp only [SrcOK] at hs
      rw [hs] at hL'; cases hL'
      exact both (by intros; simp) ⟨takeL_cells hrep.len h hσ hB, fun x _ hz e => ⟨c, _, L, rfl, hB1, hs, (hB2 _ _ _).2 ⟨hz, e⟩, fun h => by cases h⟩⟩
    · cases h
  · rename_i c ks own
    split at h
    · rename_i ks' n g own' hb
      split at h
      · rename_i hk
        obtain ⟨rfl, ho⟩ := hk
        cases h
        obtain ⟨L', hL', hB⟩ := hrep.blk _ _ (blk_some hb)
        simp only [SrcOK] at hs
        rw [hs] at hL'; cases hL'
        refine both (by intros; simp) ⟨taken_same hσ ⟨n, g, rfl, hB.1, ?_⟩, fun x _ hz e => ⟨c, _, L, rfl, blk_some hb, hs, ⟨hz, e⟩, fun h => ⟨ho h, rfl⟩⟩⟩
        obtain ⟨h1, h2, h3⟩ := hB
        exact ⟨h1, h2, h3.imp id fun ⟨cs, t, fr, k1, k2, k3, k4⟩ => ⟨cs, t, fr, k1, k2, fun h => k3 (ho h), fun i c sk hi hc => let ⟨v, e1, e2⟩ := k4 i c sk hi hc; ⟨v, e1, by cases sk <;> exact e2⟩⟩⟩
      · cases h
    · cases h
  · rename_i c wd i len ks
    split at h
    · rename_i ks' n g own' hb
      split at h
      · rename_i hk
        obtain ⟨rfl, rfl⟩ := hk
        cases h
        rcases hs with ⟨h0, h1, h2⟩ | ⟨L1, hL1, hin, rfl⟩
        · subst h0
          exact both (by intros; simp) ⟨taken_same hσ ⟨0, _, rfl, h2, rep_rows0 h1 h2⟩, fun x _ hz e => by omega⟩
        · obtain ⟨L', hL', hLn, hn, hreal⟩ := hrep.blk _ _ (blk_some hb)
          rw [hL1] at hL'; cases hL'
          have hle : (i + len) * ks.length ≤ n * ks.length := Nat.mul_le_mul_right _ (by omega)
          rw [Nat.add_mul] at hle
          refine both (by intros; simp) ⟨taken_same hσ ⟨len, _, rfl, rfl, rfl, Nat.le_refl _, ?_⟩, fun x _ hz e => ⟨c, _, L1, rfl, blk_some hb, hL1, ⟨?_, e⟩, fun h => by cases h⟩⟩
          · rcases hreal with hz | ⟨cs, t, fr, k1, k2, k3, k4⟩
            · exact .inl (show len * ks.length = 0 by omega)
            · refine .inr ⟨cs, t, fr, k1, ?_, (fun h => by cases h), fun j cc sk hj hc => ?_⟩
              · simp only; omega
              · obtain ⟨v, e1, e2⟩ := k4 (i + j) cc sk (by omega) hc
                refine ⟨v, ?_, by cases sk <;> exact e2⟩
                rw [← e1]
                congr 1
                simp only
                rw [Nat.add_mul]; omega
          · simp only at hz; omega
      · cases h
    · cases h
  · rename_i c wd o len ks
    split at h
    · rename_i as hb
      split at h
      · rename_i hk
        subst hk
        split at h
        · rename_i rs hrs
          cases h
          obtain ⟨hlen, hspec⟩ := rowsOf_spec hrs
          have hspec : ∀ (j c : Nat) (sk : SK), j < len → ks[c]? = some sk → (as.drop o)[j * ks.length + c]? = some (mkS sk (rowsF rs j c)) := by
            intro j c sk hj hc
            rw [hspec j c sk hj hc]
            congr 2
            unfold rowsF
            split
            · have : j = 0 := by simp at hlen; omega
              subst this
              rfl
            · rfl
          rcases hs with ⟨h0, h1, h2⟩ | ⟨L1, hL1, rfl⟩
          · subst h0
            exact both (by intros; simp) ⟨taken_same hσ ⟨0, _, rfl, h2, rep_rows0 h1 h2⟩, fun x _ hz e => by omega⟩
          · obtain ⟨L', hL', hbase, hsz, hreal⟩ := rep_blkC hrep hb
            obtain ⟨B, hB1, hB2⟩ := blkC_some hb
            rw [hL1] at hL'; cases hL'
            have hpos : 0 < len * ks.length → o + len * ks.length ≤ as.length := by
              intro hp
              have h1 : 0 < len := Nat.pos_of_mul_pos_right hp
              have h2 : 0 < ks.length := Nat.pos_of_mul_pos_left hp
              have := hspec (len - 1) (ks.length - 1) ks[ks.length - 1] (by omega) (List.getElem?_eq_getElem (by omega))
              have hlt := (List.getElem?_eq_some_iff.1 this).1
              simp only [List.length_drop] at hlt
              have : (len - 1) * ks.length + ks.length = len * ks.length := by
                rw [Nat.sub_mul, Nat.one_mul]
                have : ks.length ≤ len * ks.length := Nat.le_mul_of_pos_left _ h1
                omega
              omega
            refine both (by intros; simp) ⟨taken_same hσ ⟨len, _, rfl, rfl, rfl, Nat.le_refl _, ?_⟩, fun x _ hz e => ⟨c, _, L1, rfl, hB1, hL1, (hB2 _ _ _).2 ⟨?_, e⟩, fun h => by cases h⟩⟩
            · rcases Nat.eq_zero_or_pos (len * ks.length) with hz | hp
              · exact .inl hz
              · have := hpos hp
                rcases hreal with hz | ⟨cs, t, k1, k2⟩
                · omega
                · have hl2 := k2.length_eq
                  simp at hl2
                  refine .inr ⟨cs, t, (0, 0), k1, ?_, (fun h => by cases h), fun j cc sk hj hc => ?_⟩
                  · simp only; omega
                  · have e1 := hspec j cc sk hj hc
                    rw [List.getElem?_drop] at e1
                    obtain ⟨v, e2, e3⟩ := k2.get e1
                    refine ⟨v, ?_, by cases sk <;> exact e3⟩
                    rw [Array.getElem?_toList] at e2
                    rw [← e2]
                    congr 1
                    simp only
                    omega
            · simp only at hz
              have := hpos hz
              omega
        · cases h
      · cases h
    · cases h
  · rename_i c F wd i lo len ks
    split at h
    · rename_i ks0 c0 ms n g hh F' ow own hb
      split at h
      · rename_i hk
        obtain ⟨rfl, rfl, rfl, ho⟩ := hk
        cases h
        rcases hs with ⟨h0, h1, h2⟩ | ⟨L1, LF, b, o, l0, cap0, hL1, hF, hin, hm, hll, rfl⟩
        · subst h0
          exact both (by intros; simp) ⟨taken_same hσ ⟨0, _, rfl, h2, rep_rows0 h1 h2⟩, fun x _ hz e => by omega⟩
        · have real : 0 < len → ∃ cs ty fr, heap[b]? = some (.cells cs ty fr) ∧ o + cap0 * ks.length ≤ cs.size ∧ l0 ≤ cap0 ∧ 0 < cap0 ∧ ∀ (j c : Nat) (sk : SK), j < l0 → ks[c]? = some sk → ∃ u, cs[o + (j * ks.length + c)]? = some u ∧ relS φ (mkS sk (hh i (j * ks.length + c))) u := by
            intro hp
            obtain ⟨cs, ty, fr, q1, _, q2, q3, q4, _, q5⟩ := mem_at hrep hb rfl ho hL1 hF hin hm (j := lo) (by omega)
            exact ⟨cs, ty, fr, q1, q2, q3, q4, q5⟩
          have hin' : i < n := by
            obtain ⟨L2, hL2, hLn, _⟩ := hrep.blk _ _ (blk_some hb)
            rw [hL1] at hL2; cases hL2
            omega
          refine both (by intros; simp) ⟨taken_same hσ ⟨len, _, rfl, rfl, rfl, Nat.le_refl _, ?_⟩, fun x _ hz e => ⟨c, _, L1, rfl, blk_some hb, hL1, ?_, fun h => by cases h⟩⟩
          · rcases Nat.eq_zero_or_pos len with hz | hp
            · exact .inl (show len * ks.length = 0 by rw [hz, Nat.zero_mul])
            · obtain ⟨cs, ty, fr, q1, q2, q3, q4, q5⟩ := real hp
              have hle : (lo + len) * ks.length ≤ cap0 * ks.length := Nat.mul_le_mul_right _ (by omega)
              rw [Nat.add_mul] at hle
              refine .inr ⟨cs, ty, fr, q1, by simp only; omega, (fun h => by cases h), fun j cc sk hj hc => ?_⟩
              obtain ⟨v, e1, e2⟩ := q5 (lo + j) cc sk (by omega) hc
              refine ⟨v, ?_, by cases sk <;> exact e2⟩
              rw [← e1]
              congr 1
              simp only
              rw [Nat.add_mul]; omega
          · simp only at hz e
            have hp : 0 < len := Nat.pos_of_mul_pos_right hz
            obtain ⟨cs, ty, fr, q1, q2, q3, q4, q5⟩ := real hp
            exact .inr ⟨LF, i, hF, hin', isAll_has ho i, ⟨_, _, _, hm, q4, e⟩⟩
      · cases h
    · cases h
  · rename_i ks own
    cases h
    exact both (by intros; simp) ⟨taken_same hσ ⟨0, _, rfl, hs.2, rep_rows0 hs.1 hs.2⟩, fun x _ hz e => by have := hs.1; omega⟩
  · rename_i c ks c0 ms f bel own
    split at h
    · rename_i ks' c0' ms' n g hh F ow own' hb
      split at h
      · rename_i hk
        obtain ⟨rfl, rfl, rfl, ho⟩ := hk
        obtain ⟨L', hL', hB⟩ := hrep.blk _ _ (blk_some hb)
        simp only [SrcOK] at hs
        rw [hs] at hL'; cases hL'
        have hB0 := hB
        obtain ⟨h1, h2, h3, LF, hF, h4, h5, h6⟩ := hB
        have hrb : ∀ {φ1 : Phi}, φ1[f]? = some LF → RepB φ1 L heap (.nrows ks c0 ms n g hh f ow own) := by
          intro φ1 hf
          refine ⟨h1, h2, h3, LF, hf, h4.imp id fun ⟨cs, t, fr, k1, k2, k3, k4⟩ => ⟨cs, t, fr, k1, k2, fun h => k3 (ho h), fun i c sk hi hc => let ⟨v, e1, e2, e3⟩ := k4 i c sk hi hc; ⟨v, e1, fun hne => by have := e2 hne; cases sk <;> exact this, e3⟩⟩, fun i hi hoo => ⟨(h5 i hi hoo).1, ?_⟩, fun h => h6 (ho h)⟩
          rcases (h5 i hi hoo).2 with q | ⟨b, o, cap, cs, t, fr, k1, k2, k3, k4, k5, k6, k7⟩
          · exact .inl q
          · exact .inr ⟨b, o, cap, cs, t, fr, k1, k2, k3, k4, k5, fun h => k6 (ho h), fun j c sk hj hc => let ⟨u, e1, e2⟩ := k7 j c sk hj hc; ⟨u, e1, by cases sk <;> exact e2⟩⟩
        have hfoot : ∀ {φ1 ψ : Phi} {x : Nat} {g' h' : Nat → Nat → Int} {own'' : Bool}, φ1[f]? = some LF → Blk.foot (φ1 ++ ψ) (.nrows ks c0 ms n g' h' f ow own'') L x →
            ∃ c' B0 L0, (Src.blk c).cid = some c' ∧ H[c']? = some (some B0) ∧ φ[c']? = some L0 ∧ B0.foot φ L0 x ∧ (own = true → B0.mut = true ∧ Src.blk c = .blk c') := by
          intro φ1 ψ x g' h' own'' hf hh
          refine ⟨c, _, L, rfl, blk_some hb, hs, ?_, fun h => ⟨ho h, rfl⟩⟩
          rcases hh with hh | ⟨LF', i, q1, q2⟩
          · exact .inl hh
          · rw [get_prefix hf] at q1; cases q1
            exact .inr ⟨LF, i, hF, q2⟩
        split at h
        · obtain ⟨σ1, g1, g2⟩ := Option.map_eq_some_iff.1 h
          simp only [Prod.mk.injEq] at g2
          obtain ⟨rfl, rfl⟩ := g2
          obtain ⟨ψ, e1, e2, τ, e3⟩ := bindId_sound g1 hσ hF
          refine ⟨ψ, e1, ⟨⟨n, g, hh, rfl, h1, hrb e2⟩, ?_⟩, τ, e3⟩
          intro ψ' x B ns l i k1 k2 k3
          have ka := k1 0 _ rfl
          simp only [Nat.add_zero] at ka
          simp only [mkB, aRn, ka, Option.some.injEq] at k2
          subst k2
          exact hfoot e2 k3
        · rename_i k
          obtain ⟨σ1, g1, g2⟩ := Option.map_eq_some_iff.1 h
          simp only [Prod.mk.injEq] at g2
          obtain ⟨rfl, rfl⟩ := g2
          obtain ⟨ψ, e1, e2, τ, e3⟩ := bindId_sound g1 hσ hF
          refine ⟨ψ, e1, ⟨⟨n, g, hh, k, rfl, h1, hrb e2⟩, ?_⟩, τ, e3⟩
          intro ψ' x B ns l i k1 k2 k3
          have ka := k1 0 _ rfl
          have kb := k1 1 _ rfl
          simp only [Nat.add_zero] at ka
          simp only [mkB, aRn, aN, ka, kb, Option.some.injEq] at k2
          subst k2
          exact hfoot e2 k3
        · cases h
      · cases h
    · cases h
  · cases h

def bRels (bs : List BSh) (heap : Array Obj) (φ0 : Phi) (H : AH) (σ : List Src) (φ : Phi) : Nat → List BSh → List At → Prop
  | _, [], as => as = []
  | j, b :: r, as => ∃ a1 a2 L s, as = a1 ++ a2 ∧ φ[j]? = some L ∧ σ[j]? = some s ∧ bRel bs heap φ L b a1 ∧ FootOK φ0 H φ s L b a1 ∧ bRels bs heap φ0 H σ φ (j + 1) r a2

theorem takeBs_sound (hrep : Rep φ H heap) : ∀ {r : List BSh} {j : Nat} {σ σ' : List Src} {φσ : Phi} {l : List At}, takeBs H bs j r σ = some (σ', l) → All2 (SrcOK φ) σ φσ →
    Taken φ σ σ' φσ fun φ1 => bRels bs heap φ H σ' φ1 j r l
  | [], j, σ, σ', φσ, l, h, hσ => by
    cases h
    exact taken_same hσ rfl
  | b :: r, j, σ, σ', φσ, l, h, hσ => by
    simp only [takeBs] at h
    split at h
    · rename_i s hs
      split at h
      · rename_i σ1 x h1
        split at h
        · rename_i σ2 y h2
          cases h
          obtain ⟨L, hL, hsL⟩ := hσ.get hs
          obtain ⟨ψ, e1, ⟨e2, e4⟩, τ, e3⟩ := takeB_sound hrep h1 hσ hsL
          obtain ⟨ψ', f1, f2, τ', f3⟩ := takeBs_sound hrep h2 e1
          refine ⟨ψ ++ ψ', by rw [← List.append_assoc]; exact f1, ⟨x, y, L, s, rfl, get_prefix hL, ?_, ?_, ?_, by rw [← List.append_assoc]; exact f2⟩, τ ++ τ', by rw [f3, e3]; simp⟩
          · rw [f3, e3, List.append_assoc, List.getElem?_append_left (get_lt hs)]
            exact hs
          · rw [← List.append_assoc]
            exact e2.mono ψ'
          · rw [← List.append_assoc]
            exact e4.mono ψ'
        · cases h
      · cases h
    · cases h
end
end Go.AM
end
