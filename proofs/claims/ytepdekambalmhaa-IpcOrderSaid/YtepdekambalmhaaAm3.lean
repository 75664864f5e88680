/-
  The abstract machine, part 3: what one operation that does not look at the memory comes to is what the abstract one says.
-/
import Derived.Test.YtepdekambalmhaaAm2
import Derived.ChangeKeysEq
namespace Go.AM

section
variable {P : Program} {φ : Phi}

theorem sizeT_some {t : TypeId} {n : Nat} (h : sizeT P t = some n) : ∃ i, P.info? t = some i ∧ i.size = n ∧ P.cellsOf t = n := by
  unfold sizeT at h
  cases hi : P.info? t with
  | none => simp [hi] at h
  | some i => simp [hi] at h; exact ⟨i, rfl, h, by simp [Program.cellsOf, hi, h]⟩

theorem run_size {t : TypeId} {n : Nat} (h : sizeT P t = some n) (w : World) : (sizeOf t).run P w = .ok n w := by
  obtain ⟨i, hi, _, hn⟩ := sizeT_some h
  rw [run_sizeOf w hi, hn]

theorem run_isAgg {t : TypeId} {b : Bool} (h : aggT P t = some b) (w : World) : (isAgg t).run P w = .ok b w := by
  unfold aggT at h
  cases hu : P.underlying t with
  | none => simp [hu] at h
  | some d => cases d <;> simp [hu] at h <;> subst h <;> simp [isAgg, run_underlying hu]

theorem run_part {t : TypeId} {l : List AS} {cs : Array Value} {off : Nat} {a : AV} (hl : All2 (relS φ) l cs.toList) (h : partA P t l off = some a) :
    ∃ v, relA φ a v ∧ ∀ w, (part t cs off).run P w = .ok v w := by
  unfold partA at h
  split at h
  · rename_i hag
    split at h
    · rename_i n hn
      obtain rfl := Option.some.inj h
      refine ⟨.agg (cs.extract off (off + n)), ⟨_, rfl, ?_⟩, fun w => ?_⟩
      · have := (hl.drop off).take n
        simpa [List.take_drop, Nat.add_comm] using this
      · simp [part, run_isAgg hag, run_size hn]
    · cases h
  · rename_i hag
    obtain ⟨x, hx, rfl⟩ := Option.map_eq_some_iff.1 h
    obtain ⟨v, hv, hr⟩ := hl.get hx
    refine ⟨v, hr, fun w => ?_⟩
    have hv' : cs[off]? = some v := by simpa using hv
    simp [part, run_isAgg hag, hv']
  · cases h

theorem run_eqFields {eq : TypeId → AV → AV → Option Bool} {d : Nat} {xs ys : List AS} {cs ds : Array Value} (hx : All2 (relS φ) xs cs.toList) (hy : All2 (relS φ) ys ds.toList)
    (IH : ∀ t x y r a b, eq t x y = some r → relA φ x a → relA φ y b → ∀ w, (Op.equalIn d t a b).run P w = .ok r w) :
    ∀ (fs : List Field) (r : Bool), eqFs eq (partA P) xs ys fs = some r → ∀ w, (Op.eqFields d cs ds fs).run P w = .ok r w
  | [], r, h, w => by simp [eqFs] at h; subst h; simp [Op.eqFields]
  | f :: fs, r, h, w => by
    simp only [eqFs] at h
    by_cases hn : f.name = "_"
    · simp only [hn, if_true] at h
      simp only [Op.eqFields, hn, ne_eq, not_true_eq_false, if_false]
      exact run_eqFields hx hy IH fs r h w
    · simp only [hn, if_false] at h
      split at h
      · rename_i a b ha hb
        split at h
        · rename_i p q hp hq
          obtain rfl := Option.some.inj h
          obtain ⟨va, ra, ea⟩ := run_part (P := P) hx ha
          obtain ⟨vb, rb, eb⟩ := run_part (P := P) hy hb
          have e1 := IH _ _ _ _ _ _ hp ra rb w
          have e2 := run_eqFields hx hy IH fs q hq w
          simp only [Op.eqFields, hn, ne_eq, not_false_eq_true, if_true, Sem.run_bind, ea, eb, e1, Result.andThen_ok]
          cases p
          · simp
          · simpa using e2
        · cases h
      · cases h

theorem run_eqItems {eq : AV → AV → Option Bool} {d : Nat} {e : TypeId} {n : Nat} {xs ys : List AS} {cs ds : Array Value} (hx : All2 (relS φ) xs cs.toList) (hy : All2 (relS φ) ys ds.toList)
    (IH : ∀ x y r a b, eq x y = some r → relA φ x a → relA φ y b → ∀ w, (Op.equalIn d e a b).run P w = .ok r w) :
    ∀ (c i : Nat) (r : Bool), eqIs eq (partA P e) xs ys n c i = some r → ∀ w, (Op.eqItems d e n cs ds (List.range' i c)).run P w = .ok r w
  | 0, i, r, h, w => by simp [eqIs] at h; subst h; simp [Op.eqItems]
  | c + 1, i, r, h, w => by
    simp only [eqIs] at h
    split at h
    · rename_i a b ha hb
      split at h
      · rename_i p q hp hq
        obtain rfl := Option.some.inj h
        obtain ⟨va, ra, ea⟩ := run_part (P := P) hx ha
        obtain ⟨vb, rb, eb⟩ := run_part (P := P) hy hb
        have e1 := IH _ _ _ _ _ hp ra rb w
        have e2 := run_eqItems hx hy IH c (i + 1) q hq w
        simp only [List.range'_succ, Op.eqItems, Sem.run_bind, ea, eb, e1, Result.andThen_ok]
        cases p
        · simp
        · simpa using e2
      · cases h
    · cases h

theorem run_eqA : ∀ (d : Nat) (t : TypeId) (x y : AV) (r : Bool) (a b : Value), eqA P d t x y = some r → relA φ x a → relA φ y b → ∀ w, (Op.equalIn d t a b).run P w = .ok r w
  | 0, _, _, _, _, _, _, h, _, _, _ => by simp [eqA] at h
  | d + 1, t, x, y, r, a, b, h, ha, hb, w => by
    unfold eqA at h
    split at h
    · rename_i hu
      obtain rfl := Option.some.inj h
      simp only [relA, relS] at ha hb
      subst ha; subst hb
      exact run_equalIn_bool w d t _ _ hu
    · rename_i hu
      split at h
      · rename_i hk
        obtain rfl := Option.some.inj h
        simp only [relA, relS] at ha hb
        subst ha; subst hb; subst hk
        exact run_equalIn_int w d t _ _ _ _ hu
      · cases h
    · rename_i hu
      obtain rfl := Option.some.inj h
      simp only [relA, relS] at ha hb
      obtain ⟨s, rfl, rfl⟩ := ha
      obtain ⟨s', rfl, rfl⟩ := hb
      rw [run_equalIn_string w d t _ _ hu, ByteArray.toList_eq, ByteArray.toList_eq]
    · rename_i hu
      obtain rfl := Option.some.inj h
      simp only [relA, relS] at ha hb
      subst ha; subst hb
      simp [Op.equalIn, run_underlying hu]
    · rename_i hu
      obtain rfl := Option.some.inj h
      simp only [relA, relS] at ha hb
      obtain ⟨L, _, rfl⟩ := ha
      subst hb
      simp [Op.equalIn, run_underlying hu]
    · rename_i hu
      obtain rfl := Option.some.inj h
      simp only [relA, relS] at ha hb
      obtain ⟨L, _, rfl⟩ := hb
      subst ha
      simp [Op.equalIn, run_underlying hu]
    · rename_i fs xs ys hu
      split at h
      · cases h
      · rename_i hp
        obtain ⟨cs, rfl, hx⟩ := ha
        obtain ⟨ds, rfl, hy⟩ := hb
        have hf : P.fieldsOf t = fs := by simp [Program.fieldsOf, hu]
        rw [run_equalIn_struct w d t cs ds (by rw [hf]; exact hu) (by simpa using hp), hf]
        exact run_eqFields hx hy (fun t x y r a b => run_eqA d t x y r a b) _ _ h w
    · rename_i n e xs ys hu
      split at h
      · rename_i k hk
        obtain ⟨cs, rfl, hx⟩ := ha
        obtain ⟨ds, rfl, hy⟩ := hb
        obtain ⟨i, hi, _, hc⟩ := sizeT_some hk
        rw [run_equalIn_array w d cs ds hu hi, hc, List.range_eq_range']
        exact run_eqItems hx hy (fun x y r a b => run_eqA d e x y r a b) _ _ _ h w
      · cases h
    · cases h

theorem val_ok {α : Type} {a b : α} (h : (Tr.ok a).val = some b) : a = b := by simpa [Tr.val] using h

theorem splitI_val {g : Nat} {k : IntKind} {x : Int} {tv : TV} : ∀ {n : Nat} {lo : Int}, (splitI g k n lo x).val = some tv → tv = tvn k x
  | 0, _, h => by simp [splitI, Tr.val] at h
  | n + 1, lo, h => by
    simp only [splitI, Tr.val] at h
    split at h
    · rename_i e
      have e : x = lo := by simpa using e
      have := val_ok h
      rw [← this, e]
    · exact splitI_val h

theorem apartN_val {y : Option Nat} {k : IntKind} {n : Nat} {lo x : Int} {tv : TV} (h : (apartN y k n lo x).val = some tv) : tv = tvn k x := by
  unfold apartN at h
  split at h
  · split at h
    · exact splitI_val h
    · exact (val_ok h).symm
  · exact (val_ok h).symm

theorem splitTV_val {y : Option Nat} {a tv : TV} (h : (splitTV y a).val = some tv) : tv = a := by
  unfold splitTV at h
  split at h
  · split at h
    · split at h
      · exact splitI_val h
      · simp [Tr.val] at h
    · exact (val_ok h).symm
  · exact (val_ok h).symm

theorem run_intOp {y : Option Nat} {op : BinOp} {k : IntKind} {a b : Int} {tv : TV} (t : TypeId) (h : (intOp y op k a b).val = some tv) (hs : op ≠ .shl) (hr : op ≠ .shr) :
    ∃ v, relT φ tv v ∧ ∀ w, (binOp op t (.int k a) (.int k b)).run P w = .ok v w := by
  cases op <;> simp only [intOp] at h
  case shl => exact (hs rfl).elim
  case shr => exact (hr rfl).elim
  case quo =>
    obtain ⟨hc, h⟩ := val_chk h
    obtain rfl := val_ok h
    have hb : b ≠ 0 := by simpa using hc
    exact ⟨_, rfl, fun w => by simp [binOp, Op.intDiv, hb]⟩
  case rem =>
    obtain ⟨hc, h⟩ := val_chk h
    obtain rfl := apartN_val h
    have hb : b ≠ 0 := by simpa using hc
    exact ⟨_, rfl, fun w => by simp [binOp, Op.intDiv, hb]⟩
  case and => obtain rfl := val_ok h; exact ⟨_, rfl, fun w => by simp [binOp, intBits_and]⟩
  case or => obtain rfl := val_ok h; exact ⟨_, rfl, fun w => by simp [binOp, intBits_or]⟩
  case xor => obtain rfl := val_ok h; exact ⟨_, rfl, fun w => by simp [binOp, intBits_xor]⟩
  case andNot => obtain rfl := val_ok h; exact ⟨_, rfl, fun w => by simp [binOp, intBits_andNot]⟩
  all_goals (obtain rfl := val_ok h; exact ⟨_, rfl, fun w => by simp [binOp, Op.intArith, Op.intCmp]⟩)

/-- Which values 'eqA' holds against each other. -/
inductive Pair : Value → Value → Prop where
  | b (p q : Bool) : Pair (.bool p) (.bool q)
  | n (k k' : IntKind) (p q : Int) : Pair (.int k p) (.int k' q)
  | s (p q : ByteArray) : Pair (.string p) (.string q)
  | p (p q : Option Addr) : Pair (.pointer p) (.pointer q)
  | agg (p q : Array Value) : Pair (.agg p) (.agg q)

theorem eqA_pair {d : Nat} {t : TypeId} {x y : AV} {r : Bool} {a b : Value} (h : eqA P d t x y = some r) (ha : relA φ x a) (hb : relA φ y b) : Pair a b := by
  cases d with
  | zero => simp [eqA] at h
  | succ d =>
    unfold eqA at h
    split at h
    · simp only [relA, relS] at ha hb; subst ha; subst hb; exact .b _ _
    · simp only [relA, relS] at ha hb; subst ha; subst hb; exact .n _ _ _ _
    · simp only [relA, relS] at ha hb; obtain ⟨s, rfl, rfl⟩ := ha; obtain ⟨s', rfl, rfl⟩ := hb; exact .s _ _
    · simp only [relA, relS] at ha hb; subst ha; subst hb; exact .p _ _
    · simp only [relA, relS] at ha hb; obtain ⟨L, _, rfl⟩ := ha; subst hb; exact .p _ _
    · simp only [relA, relS] at ha hb; obtain ⟨L, _, rfl⟩ := hb; subst ha; exact .p _ _
    · obtain ⟨cs, rfl, _⟩ := ha; obtain ⟨ds, rfl, _⟩ := hb; exact .agg _ _
    · obtain ⟨cs, rfl, _⟩ := ha; obtain ⟨ds, rfl, _⟩ := hb; exact .agg _ _
    · cases h

theorem agg_of_rel {x : AV} {cs : Array Value} (h : relA φ x (.agg cs)) : ∃ l, x = .agg l := by
  cases x with
  | agg l => exact ⟨l, rfl⟩
  | s s => exact absurd (relS.oneCell h) (by simp [Value.oneCell'])

theorem run_eqAny {neg : Bool} {t : TypeId} {x y : AV} {tv : TV} {a b : Value} (X Y : Operand) (h : eqAny P neg t x y = some tv) (ha : relA φ x a) (hb : relA φ y b)
    (hi : ∀ k k' m n, ¬ (a = .int k m ∧ b = .int k' n)) (hst : ∀ m n, ¬ (a = .string m ∧ b = .string n)) (op : BinOp) (hop : op = if neg then .neq else .eql) :
    ∃ v, relT φ tv v ∧ ∀ w, ((do eqGuard op t X Y a b; binOp op t a b) : Sem Value).run P w = .ok v w := by
  -- what the two operands' comparison is
  have key : ∀ r, eqA P 10000 t x y = some r → tv = tvb (cond neg (!r) r) → (∀ w, (eqGuard op t X Y a b).run P w = .ok () w) →
      ∃ v, relT φ tv v ∧ ∀ w, ((do eqGuard op t X Y a b; binOp op t a b) : Sem Value).run P w = .ok v w := by
    intro r hr htv hg
    have he : ∀ w, (Op.equal t a b).run P w = .ok r w := run_eqA 10000 t x y r a b hr ha hb
    subst htv
    refine ⟨.bool (cond neg (!r) r), rfl, fun w => ?_⟩
    rw [Sem.run_bind, hg w, Result.andThen_ok]
    cases eqA_pair hr ha hb with
    | n k k' p q => exact absurd ⟨rfl, rfl⟩ (hi k k' p q)
    | s p q => exact absurd ⟨rfl, rfl⟩ (hst p q)
    | b p q => cases neg <;> simp only [Bool.false_eq_true, if_false, if_true] at hop <;> subst hop <;> simp [binOp, he]
    | p p q => cases neg <;> simp only [Bool.false_eq_true, if_false, if_true] at hop <;> subst hop <;> simp [binOp, he]
    | agg p q => cases neg <;> simp only [Bool.false_eq_true, if_false, if_true] at hop <;> subst hop <;> simp [binOp, he]
  unfold eqAny at h
  split at h
  · rename_i xs ys
    by_cases hg : P.eqGuardType P.depth t = true
    · simp [hg] at h
    · simp only [hg, Bool.false_eq_true, if_false] at h
      cases hr : eqA P 10000 t (.agg xs) (.agg ys) with
      | none => simp [hr] at h
      | some r =>
        simp only [hr, Option.some.injEq] at h
        obtain ⟨cs, rfl, _⟩ := ha
        obtain ⟨ds, rfl, _⟩ := hb
        exact key r hr h.symm fun w => run_eqGuard_agg w _ t X Y cs ds (by simpa using hg)
  · rename_i hna
    cases hr : eqA P 10000 t x y with
    | none => simp [hr] at h
    | some r =>
      simp only [hr, Option.some.injEq] at h
      refine key r hr h.symm fun w => ?_
      cases eqA_pair hr ha hb with
      | n k k' p q => rw [eqGuard_at_int]; rfl
      | s p q => rw [eqGuard_at_string]; rfl
      | b p q => rw [eqGuard_at_bool]; rfl
      | p p q => rw [eqGuard_at_pointer]; rfl
      | agg p q =>
        obtain ⟨l, rfl⟩ := agg_of_rel ha
        obtain ⟨l', rfl⟩ := agg_of_rel hb
        exact (hna l l' rfl rfl).elim

theorem int_of_rel {x : AV} {k : IntKind} {n : Int} (h : relA φ x (.int k n)) : x = .s (.n k n) := by
  cases x with
  | agg l => obtain ⟨_, e, _⟩ := h; cases e
  | s s =>
    cases s <;> simp only [relA, relS] at h
    case n => cases h; rfl
    case sl => rcases h with ⟨_, _, e⟩ | ⟨_, _, _, _, e⟩ <;> cases e
    case slr => rcases h with ⟨_, _, _, e⟩ | ⟨_, _, _, _, _, _, _, e⟩ <;> cases e
    case slc => rcases h with ⟨_, _, e⟩ | ⟨_, _, _, _, e⟩ <;> cases e
    case slq => rcases h with ⟨_, _, e⟩ | ⟨_, _, _, _, _, e⟩ <;> cases e
    case p => obtain ⟨_, _, e⟩ := h; cases e
    case pr => obtain ⟨_, _, _, e⟩ := h; cases e
    case px => obtain ⟨_, _, _, _, e⟩ := h; cases e
    case slw => rcases h with ⟨_, _, _, ⟨_, _, e⟩ | ⟨_, _, _, e⟩⟩ <;> cases e
    case slk => rcases h with ⟨_, _, _, _, ⟨_, _, e⟩ | ⟨_, _, _, e⟩⟩ <;> cases e
    case sld => rcases h with ⟨_, _, ⟨_, _, e⟩ | ⟨_, _, _, _, _, e⟩⟩ <;> cases e
    case opq => obtain ⟨_, _, _, _, e, _⟩ := h; exact (e _ _ rfl).elim
    case str => obtain ⟨_, e, _⟩ := h; cases e
    case fn => obtain ⟨_, e, _⟩ := h; cases e
    all_goals cases h

theorem string_of_rel {x : AV} {s : ByteArray} (h : relA φ x (.string s)) : x = .s (.str s.data.toList) := by
  cases x with
  | agg l => obtain ⟨_, e, _⟩ := h; cases e
  | s s =>
    cases s <;> simp only [relA, relS] at h
    case str => obtain ⟨_, e, e'⟩ := h; cases e; rw [e']
    case sl => rcases h with ⟨_, _, e⟩ | ⟨_, _, _, _, e⟩ <;> cases e
    case slr => rcases h with ⟨_, _, _, e⟩ | ⟨_, _, _, _, _, _, _, e⟩ <;> cases e
    case slc => rcases h with ⟨_, _, e⟩ | ⟨_, _, _, _, e⟩ <;> cases e
    case slq => rcases h with ⟨_, _, e⟩ | ⟨_, _, _, _, _, e⟩ <;> cases e
    case p => obtain ⟨_, _, e⟩ := h; cases e
    case pr => obtain ⟨_, _, _, e⟩ := h; cases e
    case px => obtain ⟨_, _, _, _, e⟩ := h; cases e
    case slw => rcases h with ⟨_, _, _, ⟨_, _, e⟩ | ⟨_, _, _, e⟩⟩ <;> cases e
    case slk => rcases h with ⟨_, _, _, _, ⟨_, _, e⟩ | ⟨_, _, _, e⟩⟩ <;> cases e
    case sld => rcases h with ⟨_, _, ⟨_, _, e⟩ | ⟨_, _, _, _, _, e⟩⟩ <;> cases e
    case opq => obtain ⟨_, _, _, _, _, e⟩ := h; exact (e _ rfl).elim
    case fn => obtain ⟨_, e, _⟩ := h; cases e
    all_goals cases h

theorem run_binT {y : Option Nat} {op : BinOp} {t : TypeId} {u z tv : TV} {a b : Value} (X Y : Operand) (h : (binT P y op t u z).val = some tv) (ha : relT φ u a) (hb : relT φ z b) :
    ∃ v, relT φ tv v ∧ ∀ w, ((do eqGuard op t X Y a b; binOp op t a b) : Sem Value).run P w = .ok v w := by
  unfold binT at h
  split at h
  · rename_i k m k' n
    simp only [relT, relA, relS] at ha hb
    subst ha; subst hb
    simp only [eqGuard_at_int]
    split at h
    · obtain ⟨hc, h⟩ := val_chk h
      obtain rfl := val_ok h
      have hc' : ¬ n < 0 := by simpa using hc
      exact ⟨_, rfl, fun w => by simp [binOp, Op.shift, hc', shiftN]⟩
    · obtain ⟨hc, h⟩ := val_chk h
      obtain rfl := val_ok h
      have hc' : ¬ n < 0 := by simpa using hc
      exact ⟨_, rfl, fun w => by simp [binOp, Op.shift, hc', shiftN]⟩
    · rename_i hs hr
      split at h
      · rename_i hk
        subst hk
        obtain ⟨v, hv, hrun⟩ := run_intOp (P := P) (φ := φ) t h (fun e => hs e) (fun e => hr e)
        exact ⟨v, hv, fun w => by simpa using hrun w⟩
      · simp [Tr.val] at h
  · simp only [relT, relA, relS] at ha hb
    obtain ⟨s, rfl, rfl⟩ := ha
    obtain ⟨s', rfl, rfl⟩ := hb
    simp only [eqGuard_at_string]
    split at h
    · obtain rfl := val_ok h
      exact ⟨_, rfl, fun w => by simp [binOp, Op.stringOp, ByteArray.toList_eq]⟩
    · obtain rfl := val_ok h
      exact ⟨_, rfl, fun w => by simp [binOp, Op.stringOp, ByteArray.toList_eq]⟩
    · simp [Tr.val] at h
  · rename_i x z hni hns
    have hi : ∀ k k' m n, ¬ (a = .int k m ∧ b = .int k' n) := by
      rintro k k' m n ⟨rfl, rfl⟩
      exact hni k m k' n (by rw [int_of_rel ha]) (by rw [int_of_rel hb])
    have hst : ∀ m n, ¬ (a = .string m ∧ b = .string n) := by
      rintro m n ⟨rfl, rfl⟩
      exact hns _ _ (by rw [string_of_rel ha]) (by rw [string_of_rel hb])
    split at h
    · rw [val_opt] at h
      exact run_eqAny X Y h ha hb hi hst .eql rfl
    · rw [val_opt] at h
      exact run_eqAny X Y h ha hb hi hst .neq rfl
    · simp [Tr.val] at h
  · simp [Tr.val] at h

theorem run_unT {op : UnOp} {u tv : TV} {a : Value} (h : (unT op u).val = some tv) (ha : relT φ u a) : ∃ v, relT φ tv v ∧ ∀ w, (Op.unary op a).run P w = .ok v w := by
  unfold unT at h
  split at h
  · obtain rfl := val_ok h
    simp only [relT, relA, relS] at ha
    subst ha
    exact ⟨_, rfl, fun w => by simp [Op.unary, Op.intArith]⟩
  · obtain rfl := val_ok h
    simp only [relT, relA, relS] at ha
    subst ha
    exact ⟨_, rfl, fun w => by simp only [Op.unary]; rfl⟩
  · obtain rfl := val_ok h
    simp only [relT, relA, relS] at ha
    subst ha
    exact ⟨_, rfl, fun w => by simp [Op.unary]⟩
  · simp [Tr.val] at h

theorem run_pickT {x : Bool} {u z tv : TV} {a b : Value} (h : (pickT x u z).val = some tv) (ha : relT φ u a) (hb : relT φ z b) : relT φ tv (if x then a else b) := by
  unfold pickT at h
  split at h
  · obtain rfl := val_ok h
    simp only [relT, relA, relS] at ha hb
    subst ha; subst hb
    cases x <;> rfl
  · split at h
    · rename_i hk
      subst hk
      obtain rfl := val_ok h
      simp only [relT, relA, relS] at ha hb
      subst ha; subst hb
      cases x <;> rfl
    · simp [Tr.val] at h
  · split at h
    · obtain rfl := val_ok h; exact ha
    · obtain rfl := val_ok h; exact hb
end
end Go.AM
