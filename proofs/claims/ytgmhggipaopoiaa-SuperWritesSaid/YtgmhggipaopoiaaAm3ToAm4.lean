/-
  The abstract machine, part 3: what one operation that does not look at the memory comes to is what the abstract one says.
-/
import Derived.Test.YtgmhggipaopoiaaAm1ToAm2
import Derived.ChangeKeysEq
section
namespace Go.AM

section
variable {P : Program} {φ : Phi}

theorem sizeT_some {t : TypeId} {n : Nat} (h : sizeT P t = some n) : ∃ i, P.info? t = some i ∧ i.size = n ∧ P.cellsOf t = n := by
  unfold sizeT at h
  cases hi : P.info? t with
  | none => simp [hi] at h
  | some i => simp [hi] at h; exact ⟨i, rfl, h, by simp [Program.cellsOf, hi, h]⟩

theorem run_size {t : TypeId} {n : Nat} (h : sizeT P t = some n) (w : World) : (sizeOf t).run P w = .ok n w := by
  obtain ⟨i, hi, _, hn⟩ := sizeT_some h
  rw [run_sizeOf w hi, hn]

theorem run_isAgg {t : TypeId} {b : Bool} (h : aggT P t = some b) (w : World) : (isAgg t).run P w = .ok b w := by
  unfold aggT at h
  cases hu : P.underlying t with
  | none => simp [hu] at h
  | some d => cases d <;> simp [hu] at h <;> subst h <;> simp [isAgg, run_underlying hu]

theorem run_part {t : TypeId} {l : List AS} {cs : Array Value} {off : Nat} {a : AV} (hl : All2 (relS φ) l cs.toList) (h : partA P t l off = some a) :
    ∃ v, relA φ a v ∧ ∀ w, (part t cs off).run P w = .ok v w := by
  unfold partA at h
  split at h
  · rename_i hag
    split at h
    · rename_i n hn
      obtain rfl := Option.some.inj h
      refine ⟨.agg (cs.extract off (off + n)), ⟨_, rfl, ?_⟩, fun w => ?_⟩
      · have := (hl.drop off).take n
        simpa [List.take_drop, Nat.add_comm] using this
      · simp [part, run_isAgg hag, run_size hn]
    · cases h
  · rename_i hag
    obtain ⟨x, hx, rfl⟩ := Option.map_eq_some_iff.1 h
    obtain ⟨v, hv, hr⟩ := hl.get hx
    refine ⟨v, hr, fun w => ?_⟩
    have hv' : cs[off]? = some v := by simpa using hv
    simp [part, run_isAgg hag, hv']
  · cases h

theorem run_eqFields {eq : TypeId → AV → AV → Option Bool} {d : Nat} {xs ys : List AS} {cs ds : Array Value} (hx : All2 (relS φ) xs cs.toList) (hy : All2 (relS φ) ys ds.toList)
    (IH : ∀ t x y r a b, eq t x y = some r → relA φ x a → relA φ y b → ∀ w, (Op.equalIn d t a b).run P w = .ok r w) :
    ∀ (fs : List Field) (r : Bool), eqFs eq (partA P) xs ys fs = some r → ∀ w, (Op.eqFields d cs ds fs).run P w = .ok r w
  | [], r, h, w => by simp [eqFs] at h; subst h; simp [Op.eqFields]
  | f :: fs, r, h, w => by
    simp only [eqFs] at h
    by_cases hn : f.name = "_"
    · simp only [hn, if_true] at h
      simp only [Op.eqFields, hn, ne_eq, not_true_eq_false, if_false]
      exact run_eqFields hx hy IH fs r h w
    · simp only [hn, if_false] at h
      split at h
      · rename_i a b ha hb
        split at h
        · rename_i p q hp hq
          obtain rfl := Option.some.inj h
          obtain ⟨va, ra, ea⟩ := run_part (P := P) hx ha
          obtain ⟨vb, rb, eb⟩ := run_part (P := P) hy hb
          have e1 := IH _ _ _ _ _ _ hp ra rb w
          have e2 := run_eqFields hx hy IH fs q hq w
          simp only [Op.eqFields, hn, ne_eq, not_false_eq_true, if_true, Sem.run_bind, ea, eb, e1, Result.andThen_ok]
          cases p
          · simp
          · simpa using e2
        · cases h
      · cases h

theorem run_eqItems {eq : AV → AV → Option Bool} {d : Nat} {e : TypeId} {n : Nat} {xs ys : List AS} {cs ds : Array Value} (hx : All2 (relS φ) xs cs.toList) (hy : All2 (relS φ) ys ds.toList)
    (IH : ∀ x y r a b, eq x y = some r → relA φ x a → relA φ y b → ∀ w, (Op.equalIn d e a b).run P w = .ok r w) :
    ∀ (c i : Nat) (r : Bool), eqIs eq (partA P e) xs ys n c i = some r → ∀ w, (Op.eqItems d e n cs ds (List.range' i c)).run P w = .ok r w
  | 0, i, r, h, w => by simp [eqIs] at h; subst h; simp [Op.eqItems]
  | c + 1, i, r, h, w => by
    simp only [eqIs] at h
    split at h
    · rename_i a b ha hb
      split at h
      · rename_i p q hp hq
        obtain rfl := Option.some.inj h
        obtain ⟨va, ra, ea⟩ := run_part (P := P) hx ha
        obtain ⟨vb, rb, eb⟩ := run_part (P := P) hy hb
        have e1 := IH _ _ _ _ _ hp ra rb w
        have e2 := run_eqItems hx hy IH c (i + 1) q hq w
        simp only [List.range'_succ, Op.eqItems, Sem.run_bind, ea, eb, e1, Result.andThen_ok]
        cases p
        · simp
        · simpa using e2
      · cases h
    · cases h

theorem run_eqA : ∀ (d : Nat) (t : TypeId) (x y : AV) (r : Bool) (a b : Value), eqA P d t x y = some r → relA φ x a → relA φ y b → ∀ w, (Op.equalIn d t a b).run P w = .ok r w
  | 0, _, _, _, _, _, _, h, _, _, _ => by simp [eqA] at h
  | d + 1, t, x, y, r, a, b, h, ha, hb, w => by
    unfold eqA at h
    split at h
    · rename_i hu
      obtain rfl := Option.some.inj h
      simp only [relA, relS] at ha hb
      subst ha; subst hb
      exact run_equalIn_bool w d t _ _ hu
    · rename_i hu
      split at h
      · rename_i hk
        obtain rfl := Option.some.inj h
        simp only [relA, relS] at ha hb
        subst ha; subst hb; subst hk
        exact run_equalIn_int w d t _ _ _ _ hu
      · cases h
    · rename_i hu
      obtain rfl := Option.some.inj h
      simp only [relA, relS] at ha hb
      obtain ⟨s, rfl, rfl⟩ := ha
      obtain ⟨s', rfl, rfl⟩ := hb
      rw [run_equalIn_string w d t _ _ hu, ByteArray.toList_eq, ByteArray.toList_eq]
    · rename_i hu
      obtain rfl := Option.some.inj h
      simp only [relA, relS] at ha hb
      subst ha; subst hb
      simp [Op.equalIn, run_underlying hu]
    · rename_i hu
      obtain rfl := Option.some.inj h
      simp only [relA, relS] at ha hb
      obtain ⟨L, _, rfl⟩ := ha
      subst hb
      simp [Op.equalIn, run_underlying hu]
    · rename_i hu
      obtain rfl := Option.some.inj h
      simp only [relA, relS] at ha hb
      obtain ⟨L, _, rfl⟩ := hb
      subst ha
      simp [Op.equalIn, run_underlying hu]
    · rename_i hu
      obtain rfl := Option.some.inj h
      simp only [relA, relS] at ha hb
      obtain ⟨L, _, _, rfl⟩ := ha
      subst hb
      simp [Op.equalIn, run_underlying hu]
    · rename_i hu
      obtain rfl := Option.some.inj h
      simp only [relA, relS] at ha hb
      subst ha; subst hb
      simp [Op.equalIn, run_underlying hu]
    · rename_i hu
      obtain rfl := Option.some.inj h
      simp only [relA, relS] at ha hb
      subst hb
      rcases ha with ⟨_, _, rfl⟩ | ⟨L, _, _, _, _, rfl⟩ <;> simp [Op.equalIn, run_underlying hu]
    · rename_i fs xs ys hu
      split at h
      · cases h
      · rename_i hp
        obtain ⟨cs, rfl, hx⟩ := ha
        obtain ⟨ds, rfl, hy⟩ := hb
        have hf : P.fieldsOf t = fs := by simp [Program.fieldsOf, hu]
        rw [run_equalIn_struct w d t cs ds (by rw [hf]; exact hu) (by simpa using hp), hf]
        exact run_eqFields hx hy (fun t x y r a b => run_eqA d t x y r a b) _ _ h w
    · rename_i n e xs ys hu
      split at h
      · rename_i k hk
        obtain ⟨cs, rfl, hx⟩ := ha
        obtain ⟨ds, rfl, hy⟩ := hb
        obtain ⟨i, hi, _, hc⟩ := sizeT_some hk
        rw [run_equalIn_array w d cs ds hu hi, hc, List.range_eq_range']
        exact run_eqItems hx hy (fun x y r a b => run_eqA d e x y r a b) _ _ _ h w
      · cases h
    · cases h

theorem val_ok {α : Type} {a b : α} (h : (Tr.ok a).val = some b) : a = b := by simpa [Tr.val] using h

theorem splitI_val {g : Nat} {k : IntKind} {x : Int} {tv : TV} : ∀ {n : Nat} {lo : Int}, (splitI g k n lo x).val = some tv → tv = tvn k x
  | 0, _, h => by simp [splitI, Tr.val] at h
  | n + 1, lo, h => by
    simp only [splitI, Tr.val] at h
    split at h
    · rename_i e
      have e : x = lo := by simpa using e
      have := val_ok h
      rw [← this, e]
    · exact splitI_val h

theorem apartN_val {y : Option Nat} {k : IntKind} {n : Nat} {lo x : Int} {tv : TV} (h : (apartN y k n lo x).val = some tv) : tv = tvn k x := by
  unfold apartN at h
  split at h
  · split at h
    · exact splitI_val h
    · exact (val_ok h).symm
  · exact (val_ok h).symm

theorem splitTV_val {y : Option Nat} {a tv : TV} (h : (splitTV y a).val = some tv) : tv = a := by
  unfold splitTV at h
  split at h
  · split at h
    · split at h
      · exact splitI_val h
      · simp [Tr.val] at h
    · exact (val_ok h).symm
  · exact (val_ok h).symm

theorem run_intOp {y : Option Nat} {op : BinOp} {k : IntKind} {a b : Int} {tv : TV} (t : TypeId) (h : (intOp y op k a b).val = some tv) (hs : op ≠ .shl) (hr : op ≠ .shr) :
    ∃ v, relT φ tv v ∧ ∀ w, (binOp op t (.int k a) (.int k b)).run P w = .ok v w := by
  cases op <;> simp only [intOp] at h
  case shl => exact (hs rfl).elim
  case shr => exact (hr rfl).elim
  case quo =>
    obtain ⟨hc, h⟩ := val_chk h
    obtain rfl := val_ok h
    have hb : b ≠ 0 := by simpa using hc
    exact ⟨_, rfl, fun w => by simp [binOp, Op.intDiv, hb]⟩
  case rem =>
    obtain ⟨hc, h⟩ := val_chk h
    obtain rfl := apartN_val h
    have hb : b ≠ 0 := by simpa using hc
    exact ⟨_, rfl, fun w => by simp [binOp, Op.intDiv, hb]⟩
  case and => obtain rfl := val_ok h; exact ⟨_, rfl, fun w => by simp [binOp, intBits_and]⟩
  case or => obtain rfl := val_ok h; exact ⟨_, rfl, fun w => by simp [binOp, intBits_or]⟩
  case xor => obtain rfl := val_ok h; exact ⟨_, rfl, fun w => by simp [binOp, intBits_xor]⟩
  case andNot => obtain rfl := val_ok h; exact ⟨_, rfl, fun w => by simp [binOp, intBits_andNot]⟩
  all_goals (obtain rfl := val_ok h; exact ⟨_, rfl, fun w => by simp [binOp, Op.intArith, Op.intCmp]⟩)

inductive Pair : Value → Value → Prop where
  | b (p q : Bool) : Pair (.bool p) (.bool q)
  | n (k k' : IntKind) (p q : Int) : Pair (.int k p) (.int k' q)
  | s (p q : ByteArray) : Pair (.string p) (.string q)
  | p (p q : Option Addr) : Pair (.pointer p) (.pointer q)
  | agg (p q : Array Value) : Pair (.agg p) (.agg q)
  | sl (a : Option Addr) (l c : Nat) (a' : Option Addr) (l' c' : Nat) : Pair (.slice a l c) (.slice a' l' c')

theorem eqA_pair {d : Nat} {t : TypeId} {x y : AV} {r : Bool} {a b : Value} (h : eqA P d t x y = some r) (ha : relA φ x a) (hb : relA φ y b) : Pair a b := by
  cases d with
  | zero => simp [eqA] at h
  | succ d =>
    unfold eqA at h
    split at h
    · simp only [relA, relS] at ha hb; subst ha; subst hb; exact .b _ _
    · simp only [relA, relS] at ha hb; subst ha; subst hb; exact .n _ _ _ _
    · simp only [relA, relS] at ha hb; obtain ⟨s, rfl, rfl⟩ := ha; obtain ⟨s', rfl, rfl⟩ := hb; exact .s _ _
    · simp only [relA, relS] at ha hb; subst ha; subst hb; exact .p _ _
    · simp only [relA, relS] at ha hb; obtain ⟨L, _, rfl⟩ := ha; subst hb; exact .p _ _
    · simp only [relA, relS] at ha hb; obtain ⟨L, _, rfl⟩ := hb; subst ha; exact .p _ _
    · simp only [relA, relS] at ha hb; obtain ⟨L, _, _, rfl⟩ := ha; subst hb; exact .p _ _
    · simp only [relA, relS] at ha hb; subst ha; subst hb; exact .sl _ _ _ _ _ _
    · simp only [relA, relS] at ha hb; subst hb; rcases ha with ⟨_, _, rfl⟩ | ⟨L, _, _, _, _, rfl⟩ <;> exact .sl _ _ _ _ _ _
    · obtain ⟨cs, rfl, _⟩ := ha; obtain ⟨ds, rfl, _⟩ := hb; exact .agg _ _
    · obtain ⟨cs, rfl, _⟩ := ha; obtain ⟨ds, rfl, _⟩ := hb; exact .agg _ _
    · cases h

theorem agg_of_rel {x : AV} {cs : Array Value} (h : relA φ x (.agg cs)) : ∃ l, x = .agg l := by
  cases x with
  | agg l => exact ⟨l, rfl⟩
  | s s => exact absurd (relS.oneCell h) (by simp [Value.oneCell'])

theorem run_eqAny {neg : Bool} {t : TypeId} {x y : AV} {tv : TV} {a b : Value} (X Y : Operand) (h : eqAny P neg t x y = some tv) (ha : relA φ x a) (hb : relA φ y b)
    (hi : ∀ k k' m n, ¬ (a = .int k m ∧ b = .int k' n)) (hst : ∀ m n, ¬ (a = .string m ∧ b = .string n)) (op : BinOp) (hop : op = if neg then .neq else .eql) :
    ∃ v, relT φ tv v ∧ ∀ w, ((do eqGuard op t X Y a b; binOp op t a b) : Sem Value).run P w = .ok v w := by
  -- what the two operands' comparison is
  have key : ∀ r, eqA P 10000 t x y = some r → tv = tvb (cond neg (!r) r) → (∀ w, (eqGuard op t X Y a b).run P w = .ok () w) →
      ∃ v, relT φ tv v ∧ ∀ w, ((do eqGuard op t X Y a b; binOp op t a b) : Sem Value).run P w = .ok v w := by
    intro r hr htv hg
    have he : ∀ w, (Op.equal t a b).run P w = .ok r w := run_eqA 10000 t x y r a b hr ha hb
    subst htv
    refine ⟨.bool (cond neg (!r) r), rfl, fun w => ?_⟩
    rw [Sem.run_bind, hg w, Result.andThen_ok]
    cases eqA_pair hr ha hb with
    | n k k' p q => exact absurd ⟨rfl, rfl⟩ (hi k k' p q)
    | s p q => exact absurd ⟨rfl, rfl⟩ (hst p q)
    | b p q => cases neg <;> simp only [Bool.false_eq_true, if_false, if_true] at hop <;> subst hop <;> simp [binOp, he]
    | p p q => cases neg <;> simp only [Bool.false_eq_true, if_false, if_true] at hop <;> subst hop <;> simp [binOp, he]
    | agg p q => cases neg <;> simp only [Bool.false_eq_true, if_false, if_true] at hop <;> subst hop <;> simp [binOp, he]
    | sl => cases neg <;> simp only [Bool.false_eq_true, if_false, if_true] at hop <;> subst hop <;> simp [binOp, he]
  unfold eqAny at h
  split at h
  · rename_i xs ys
    by_cases hg : P.eqGuardType P.depth t = true
    · simp [hg] at h
    · simp only [hg, Bool.false_eq_true, if_false] at h
      cases hr : eqA P 10000 t (.agg xs) (.agg ys) with
      | none => simp [hr] at h
      | some r =>
        simp only [hr, Option.some.injEq] at h
        obtain ⟨cs, rfl, _⟩ := ha
        obtain ⟨ds, rfl, _⟩ := hb
        exact key r hr h.symm fun w => run_eqGuard_agg w _ t X Y cs ds (by simpa using hg)
  · rename_i hna
    cases hr : eqA P 10000 t x y with
    | none => simp [hr] at h
    | some r =>
      simp only [hr, Option.some.injEq] at h
      refine key r hr h.symm fun w => ?_
      cases eqA_pair hr ha hb with
      | n k k' p q => rw [eqGuard_at_int]; rfl
      | s p q => rw [eqGuard_at_string]; rfl
      | b p q => rw [eqGuard_at_bool]; rfl
      | p p q => rw [eqGuard_at_pointer]; rfl
      | sl => rw [eqGuard_at_slice]; rfl
      | agg p q =>
        obtain ⟨l, rfl⟩ := agg_of_rel ha
        obtain ⟨l', rfl⟩ := agg_of_rel hb
        exact (hna l l' rfl rfl).elim

theorem int_of_rel {x : AV} {k : IntKind} {n : Int} (h : relA φ x (.int k n)) : x = .s (.n k n) := by
  cases x with
  | agg l => obtain ⟨_, e, _⟩ := h; cases e
  | s s =>
    cases s <;> simp only [relA, relS] at h
    case n => cases h; rfl
    case sl => rcases h with ⟨_, _, e⟩ | ⟨_, _, _, _, e⟩ <;> cases e
    case slr => rcases h with ⟨_, _, _, e⟩ | ⟨_, _, _, _, _, _, _, e⟩ <;> cases e
    case slc => rcases h with ⟨_, _, e⟩ | ⟨_, _, _, _, e⟩ <;> cases e
    case slq => rcases h with ⟨_, _, e⟩ | ⟨_, _, _, _, _, e⟩ <;> cases e
    case p => obtain ⟨_, _, e⟩ := h; cases e
    case pr => obtain ⟨_, _, _, e⟩ := h; cases e
    case px => obtain ⟨_, _, _, _, e⟩ := h; cases e
    case slw => rcases h with ⟨_, _, _, ⟨_, _, e⟩ | ⟨_, _, _, e⟩⟩ <;> cases e
    case slk => rcases h with ⟨_, _, _, _, ⟨_, _, e⟩ | ⟨_, _, _, e⟩⟩ <;> cases e
    case sld => rcases h with ⟨_, _, ⟨_, _, e⟩ | ⟨_, _, _, _, _, e⟩⟩ <;> cases e
    case slz => rcases h with ⟨_, _, e⟩ | ⟨_, _, _, _, _, e⟩ <;> cases e
    case mem => rcases h with ⟨_, _, _, _, _, _, ⟨_, _, e⟩ | ⟨_, _, _, e, _⟩⟩ <;> cases e
    case mems => rcases h with ⟨_, _, e⟩ | ⟨_, _, _, _, _, _, _, _, _, _, _, _, _, e⟩ <;> cases e
    case mpx => obtain ⟨_, _, _, _, _, _, _, _, _, _, _, _, e⟩ := h; cases e
    case opq => obtain ⟨_, _, _, _, e, _⟩ := h; exact (e _ _ rfl).elim
    case sle => obtain ⟨_, e⟩ := h; cases e
    case str => obtain ⟨_, e, _⟩ := h; cases e
    case fn => obtain ⟨_, e, _⟩ := h; cases e
    all_goals cases h

theorem string_of_rel {x : AV} {s : ByteArray} (h : relA φ x (.string s)) : x = .s (.str s.data.toList) := by
  cases x with
  | agg l => obtain ⟨_, e, _⟩ := h; cases e
  | s s =>
    cases s <;> simp only [relA, relS] at h
    case str => obtain ⟨_, e, e'⟩ := h; cases e; rw [e']
    case sle => obtain ⟨_, e⟩ := h; cases e
    case sl => rcases h with ⟨_, _, e⟩ | ⟨_, _, _, _, e⟩ <;> cases e
    case slr => rcases h with ⟨_, _, _, e⟩ | ⟨_, _, _, _, _, _, _, e⟩ <;> cases e
    case slc => rcases h with ⟨_, _, e⟩ | ⟨_, _, _, _, e⟩ <;> cases e
    case slq => rcases h with ⟨_, _, e⟩ | ⟨_, _, _, _, _, e⟩ <;> cases e
    case p => obtain ⟨_, _, e⟩ := h; cases e
    case pr => obtain ⟨_, _, _, e⟩ := h; cases e
    case px => obtain ⟨_, _, _, _, e⟩ := h; cases e
    case slw => rcases h with ⟨_, _, _, ⟨_, _, e⟩ | ⟨_, _, _, e⟩⟩ <;> cases e
    case slk => rcases h with ⟨_, _, _, _, ⟨_, _, e⟩ | ⟨_, _, _, e⟩⟩ <;> cases e
    case sld => rcases h with ⟨_, _, ⟨_, _, e⟩ | ⟨_, _, _, _, _, e⟩⟩ <;> cases e
    case slz => rcases h with ⟨_, _, e⟩ | ⟨_, _, _, _, _, e⟩ <;> cases e
    case mem => rcases h with ⟨_, _, _, _, _, _, ⟨_, _, e⟩ | ⟨_, _, _, e, _⟩⟩ <;> cases e
    case mems => rcases h with ⟨_, _, e⟩ | ⟨_, _, _, _, _, _, _, _, _, _, _, _, _, e⟩ <;> cases e
    case mpx => obtain ⟨_, _, _, _, _, _, _, _, _, _, _, _, e⟩ := h; cases e
    case opq => obtain ⟨_, _, _, _, _, e⟩ := h; exact (e _ rfl).elim
    case fn => obtain ⟨_, e, _⟩ := h; cases e
    all_goals cases h

theorem run_binO {y : Option Nat} {op : BinOp} {t : TypeId} {u z tv : TV} {a b : Value} (X Y : Operand) (h : (binO P y op t u z).val = some tv) (ha : relT φ u a) (hb : relT φ z b) :
    ∃ v, relT φ tv v ∧ ∀ w, ((do eqGuard op t X Y a b; binOp op t a b) : Sem Value).run P w = .ok v w := by
  unfold binO at h
  split at h
  · rename_i k m k' n
    simp only [relT, relA, relS] at ha hb
    subst ha; subst hb
    simp only [eqGuard_at_int]
    split at h
    · obtain ⟨hc, h⟩ := val_chk h
      obtain rfl := val_ok h
      have hc' : ¬ n < 0 := by simpa using hc
      exact ⟨_, rfl, fun w => by simp [binOp, Op.shift, hc', shiftN]⟩
    · obtain ⟨hc, h⟩ := val_chk h
      obtain rfl := val_ok h
      have hc' : ¬ n < 0 := by simpa using hc
      exact ⟨_, rfl, fun w => by simp [binOp, Op.shift, hc', shiftN]⟩
    · rename_i hs hr
      split at h
      · rename_i hk
        subst hk
        obtain ⟨v, hv, hrun⟩ := run_intOp (P := P) (φ := φ) t h (fun e => hs e) (fun e => hr e)
        exact ⟨v, hv, fun w => by simpa using hrun w⟩
      · simp [Tr.val] at h
  · simp only [relT, relA, relS] at ha hb
    obtain ⟨s, rfl, rfl⟩ := ha
    obtain ⟨s', rfl, rfl⟩ := hb
    simp only [eqGuard_at_string]
    split at h
    · obtain rfl := val_ok h
      exact ⟨_, rfl, fun w => by simp [binOp, Op.stringOp, ByteArray.toList_eq]⟩
    · obtain rfl := val_ok h
      exact ⟨_, rfl, fun w => by simp [binOp, Op.stringOp, ByteArray.toList_eq]⟩
    · simp [Tr.val] at h
  · rename_i x z hni hns
    have hi : ∀ k k' m n, ¬ (a = .int k m ∧ b = .int k' n) := by
      rintro k k' m n ⟨rfl, rfl⟩
      exact hni k m k' n (by rw [int_of_rel ha]) (by rw [int_of_rel hb])
    have hst : ∀ m n, ¬ (a = .string m ∧ b = .string n) := by
      rintro m n ⟨rfl, rfl⟩
      exact hns _ _ (by rw [string_of_rel ha]) (by rw [string_of_rel hb])
    split at h
    · rw [val_opt] at h
      exact run_eqAny X Y h ha hb hi hst .eql rfl
    · rw [val_opt] at h
      exact run_eqAny X Y h ha hb hi hst .neq rfl
    · simp [Tr.val] at h
  · simp [Tr.val] at h

theorem run_binT {y : Option Nat} {op : BinOp} {t : TypeId} {u z tv : TV} {a b : Value} (X Y : Operand) (h : (binT P y op t u z).val = some tv) (ha : relT φ u a) (hb : relT φ z b) :
    ∃ v, relT φ tv v ∧ ∀ w, ((do eqGuard op t X Y a b; binOp op t a b) : Sem Value).run P w = .ok v w := by
  unfold binT at h
  split at h
  · rename_i r hr
    unfold nilT at hr
    split at hr
    · rename_i id wd n
      have key : ∀ e, P.underlying t = some (.slice e) → Nat.blt 0 n = true → ∀ neg op, op = (if neg then .neq else .eql) → ∃ v, relT φ (tvb (cond neg (!false) false)) v ∧ ∀ w, ((do eqGuard op t X Y a b; binOp op t a b) : Sem Value).run P w = .ok v w := by
        intro e hu hn neg op hop
        have hn : 0 < n := by simpa using hn
        have ha' : relA φ (.s (.slz id wd 0 n)) a := by
          obtain ⟨L, hL, hLn, ha⟩ := ha
          rcases ha with ⟨h0, _⟩ | ⟨cap, hle, hsz, rfl⟩
          · omega
          · exact .inr ⟨L, cap, hL, hle, by omega, by simp⟩
        have h' : eqAny P neg t (.s (.slz id wd 0 n)) (.s .slnil) = some (tvb (cond neg (!false) false)) := by simp [eqAny, eqA, hu]
        have hb' : b = .slice none 0 0 := hb
        refine run_eqAny X Y h' ha' hb (fun _ _ _ _ hh => ?_) (fun _ _ hh => ?_) op hop
        · rw [hb'] at hh; cases hh.2
        · rw [hb'] at hh; cases hh.2
      split at hr
      · rename_i e hu
        cases hr
        obtain ⟨hc, h⟩ := val_chk h
        obtain rfl := val_ok h
        exact key e hu hc false _ rfl
      · rename_i e hu
        cases hr
        obtain ⟨hc, h⟩ := val_chk h
        obtain rfl := val_ok h
        exact key e hu hc true _ rfl
      · cases hr
    · cases hr
  · exact run_binO X Y h ha hb

theorem run_unT {op : UnOp} {u tv : TV} {a : Value} (h : (unT op u).val = some tv) (ha : relT φ u a) : ∃ v, relT φ tv v ∧ ∀ w, (Op.unary op a).run P w = .ok v w := by
  unfold unT at h
  split at h
  · obtain rfl := val_ok h
    simp only [relT, relA, relS] at ha
    subst ha
    exact ⟨_, rfl, fun w => by simp [Op.unary, Op.intArith]⟩
  · obtain rfl := val_ok h
    simp only [relT, relA, relS] at ha
    subst ha
    exact ⟨_, rfl, fun w => by simp only [Op.unary]; rfl⟩
  · obtain rfl := val_ok h
    simp only [relT, relA, relS] at ha
    subst ha
    exact ⟨_, rfl, fun w => by simp [Op.unary]⟩
  · simp [Tr.val] at h

theorem run_pickT {x : Bool} {u z tv : TV} {a b : Value} (h : (pickT x u z).val = some tv) (ha : relT φ u a) (hb : relT φ z b) : relT φ tv (if x then a else b) := by
  unfold pickT at h
  split at h
  · obtain rfl := val_ok h
    simp only [relT, relA, relS] at ha hb
    subst ha; subst hb
    cases x <;> rfl
  · split at h
    · rename_i hk
      subst hk
      obtain rfl := val_ok h
      simp only [relT, relA, relS] at ha hb
      subst ha; subst hb
      cases x <;> rfl
    · simp [Tr.val] at h
  · split at h
    · obtain rfl := val_ok h; exact ha
    · obtain rfl := val_ok h; exact hb
end
end Go.AM
end

/-
  The abstract machine, part 4: the other operations that do not look at the memory.
-/
section
namespace Go.AM

section
variable {P : Program} {φ : Phi}

theorem add_zero_off (b o n : Nat) : (⟨b, o, none⟩ : Addr).add n = ⟨b, o + n, none⟩ := by
  unfold Addr.add; split <;> simp_all

theorem zeroT_rel {t : TypeId} {l : List AS} (h : zeroT P t = some l) : ∃ i z, P.info? t = some i ∧ i.zero = some z ∧ All2 (relS φ) l z.cells.toList := by
  unfold zeroT at h
  cases hi : P.info? t with
  | none => simp [hi] at h
  | some i =>
    cases hz : i.zero with
    | none => simp [hi, hz] at h
    | some z =>
      simp only [hi, hz, Option.map_eq_some_iff] at h
      obtain ⟨a, ha, rfl⟩ := h
      exact ⟨i, z, rfl, hz, relA.cells (absV_rel ha)⟩

/-! ### build -/

theorem setAll_rel {l vs : List AS} {cs ds : List Value} (hl : All2 (relS φ) l cs) (hv : All2 (relS φ) vs ds) (o : Nat) :
    All2 (relS φ) (setAll l o vs) (cs.take o ++ ds ++ cs.drop (o + ds.length)) := by
  unfold setAll
  rw [hv.length_eq]
  exact ((hl.take o).append hv).append (hl.drop _)

theorem foldl_set (cs : Array Value) (off : Nat) : ∀ (ds : List Value) (k : Nat), off + k + ds.length ≤ cs.size →
    ((ds.zipIdx k).foldl (fun cs (x : Value × Nat) => cs.setIfInBounds (off + x.2) x.1) cs).toList = cs.toList.take (off + k) ++ ds ++ cs.toList.drop (off + k + ds.length)
  | [], k, _ => by simp
  | d :: ds, k, h => by
    simp only [List.length_cons] at h
    simp only [List.zipIdx_cons, List.foldl_cons]
    have ih := foldl_set (cs.setIfInBounds (off + k) d) off ds (k + 1) (by simp; omega)
    rw [ih]
    apply List.ext_getElem?
    intro j
    simp only [Array.toList_setIfInBounds, List.getElem?_append, List.length_take, List.length_set, Array.length_toList, List.getElem?_take, List.getElem?_drop, List.getElem?_set, List.length_append, List.length_cons]
    have e1 : min (off + (k + 1)) cs.size = off + k + 1 := by omega
    have e2 : min (off + k) cs.size = off + k := by omega
    rw [e1, e2]
    by_cases h1 : j < off + k
    · have h2 : ¬ (off + k = j) := by omega
      simp [h1, h2, show j < off + k + 1 by omega, show j < off + k + 1 + ds.length by omega, show j < off + k + (ds.length + 1) by omega, show j < off + (k + 1) by omega]
    · by_cases h2 : off + k = j
      · subst h2
        simp [show off + k < cs.size by omega, show off + k < off + k + 1 + ds.length by omega, show off + k < off + (k + 1) by omega]
      · have h3 : off + k + 1 ≤ j := by omega
        by_cases h4 : j < off + k + 1 + ds.length
        · simp [h1, h4, show ¬ j < off + k + 1 by omega, show j < off + k + (ds.length + 1) by omega]
          rw [show j - (off + k) = (j - (off + k + 1)) + 1 by omega]
          simp
        · simp only [h4, if_false, show ¬ j < off + k + (ds.length + 1) by omega]
          rw [show off + (k + 1) + ds.length + (j - (off + k + 1 + ds.length)) = j by omega, show off + k + (ds.length + 1) + (j - (off + k + (ds.length + 1))) = j by omega]
          simp [h2]

theorem fill_rel {place : Nat → Option (Nat × Nat)} : ∀ {parts : List (Nat × AV)} {vals : List (Nat × Value)} {l r : List AS} {cs : Array Value},
    All2 (relS φ) l cs.toList → All2 (fun (a : Nat × AV) (b : Nat × Value) => a.1 = b.1 ∧ relA φ a.2 b.2) parts vals → fillA place l parts = some r →
    ∃ ds, Instr.fill place cs vals = some ds ∧ All2 (relS φ) r ds.toList
  | [], [], l, r, cs, hl, _, h => by
    simp only [fillA, Option.some.injEq] at h
    subst h
    exact ⟨cs, rfl, hl⟩
  | (i, a) :: parts, (j, v) :: vals, l, r, cs, hl, hp, h => by
    obtain ⟨⟨rfl, hav⟩, hp'⟩ := hp
    simp only [fillA] at h
    cases hpl : place i with
    | none => simp [hpl] at h
    | some os =>
      obtain ⟨off, size⟩ := os
      simp only [hpl] at h
      split at h
      · rename_i hc
        obtain ⟨hc1, hc2⟩ := hc
        have hcells := hav.cells
        have hlen : v.cells.size = size := by have := hcells.length_eq; simp at this; omega
        have hsz : cs.size = l.length := by have := hl.length_eq; simp at this; omega
        simp only [Instr.fill, hpl]
        rw [if_neg (by simp [hlen]; omega)]
        refine fill_rel ?_ hp' h
        have e := foldl_set cs off v.cells.toList 0 (by simp [hlen]; omega)
        have e' : (v.cells.zipIdx.foldl (fun cs (x : Value × Nat) => cs.setIfInBounds (off + x.2) x.1) cs).toList = cs.toList.take off ++ v.cells.toList ++ cs.toList.drop (off + v.cells.toList.length) := by
          rw [← Array.foldl_toList]
          simpa using e
        have := setAll_rel hl hcells off
        rw [← e'] at this
        exact this
      · cases h
  | [], _ :: _, _, _, _, _, hp, _ => hp.elim
  | _ :: _, [], _, _, _, _, hp, _ => hp.elim

theorem partsT_rel {ρ : Operand → TV} {e : Operand → Value} (hρ : ∀ x, relT φ (ρ x) (e x)) : ∀ {parts : List (Nat × Operand)} {ps : List (Nat × AV)}, partsT ρ parts = some ps →
    All2 (fun (a : Nat × AV) (b : Nat × Value) => a.1 = b.1 ∧ relA φ a.2 b.2) ps (parts.map fun x => (x.1, e x.2))
  | [], ps, h => by simp [partsT] at h; subst h; trivial
  | (i, x) :: rest, ps, h => by
    simp only [partsT] at h
    have hx := hρ x
    split at h
    · rename_i a ha
      rw [ha] at hx
      split at h
      · rename_i r hr
        obtain rfl := Option.some.inj h
        exact ⟨⟨rfl, hx⟩, partsT_rel hρ hr⟩
      · cases h
    · cases h

theorem placesT_run : ∀ {fs : List Field} {ps : List (Nat × Nat)}, placesT P fs = some ps → ∀ w, (fs.mapM fun f => Prod.mk f.offset <$> sizeOf f.type).run P w = .ok ps w
  | [], ps, h, w => by simp [placesT] at h; subst h; simp
  | f :: fs, ps, h, w => by
    simp only [placesT] at h
    split at h
    · rename_i n hn
      split at h
      · rename_i r hr
        obtain rfl := Option.some.inj h
        simp [List.mapM_cons, run_size hn, placesT_run hr]
      · cases h
    · cases h

theorem run_buildT {t : TypeId} {parts : List (Nat × AV)} {vals : Array (Nat × Value)} {tv : TV} (h : buildT P t parts = some tv)
    (hp : All2 (fun (a : Nat × AV) (b : Nat × Value) => a.1 = b.1 ∧ relA φ a.2 b.2) parts vals.toList) : ∃ v, relT φ tv v ∧ ∀ w, (Instr.build t vals).run P w = .ok v w := by
  unfold buildT at h
  cases hz : zeroT P t with
  | none => simp [hz] at h
  | some zero =>
    obtain ⟨i, z, hi, hzz, hrel⟩ := zeroT_rel (φ := φ) hz
    simp only [hz] at h
    have hzero : ∀ w, (zeroValue t).run P w = .ok z w := fun w => by simp [zeroValue, typeInfo, hi, hzz]
    split at h
    · rename_i fs hu
      split at h
      · rename_i ps hps
        obtain ⟨l, hl, rfl⟩ := Option.map_eq_some_iff.1 h
        obtain ⟨ds, hds, hr⟩ := fill_rel hrel hp hl
        refine ⟨.agg ds, ⟨ds, rfl, hr⟩, fun w => ?_⟩
        have hpl := placesT_run hps w
        have hpl' : (fs.mapM fun f => (do pure (f.offset, ← sizeOf f.type) : Sem (Nat × Nat))).run P w = .ok ps.toArray w := by
          rw [Array.mapM_eq_mapM_toList]
          simp only [Sem.run_map]
          have : (fun (f : Field) => (do pure (f.offset, ← sizeOf f.type) : Sem (Nat × Nat))) = fun (f : Field) => Prod.mk f.offset <$> sizeOf f.type := by
            funext f; rfl
          rw [this, hpl]
          rfl
        simp only [Instr.build, Sem.run_bind, hzero, Result.andThen_ok, run_underlying hu, hpl']
        have : (fun (x : Nat) => ps.toArray[x]?) = (fun (x : Nat) => ps[x]?) := by funext x; simp
        rw [this, hds]
        rfl
      · cases h
    · rename_i n e hu
      split at h
      · rename_i k hk
        obtain ⟨l, hl, rfl⟩ := Option.map_eq_some_iff.1 h
        obtain ⟨ds, hds, hr⟩ := fill_rel hrel hp hl
        refine ⟨.agg ds, ⟨ds, rfl, hr⟩, fun w => ?_⟩
        simp only [Instr.build, Sem.run_bind, hzero, Result.andThen_ok, run_underlying hu, run_size hk, hds]
        rfl
      · cases h
    · cases h

/-! ### parts and places -/

theorem run_fieldPlace {f : Field} {n : Nat} (a : Addr) (hn : sizeT P f.type = some n) (h0 : n ≠ 0) (w : World) : (fieldPlace a f).run P w = .ok (a.add f.offset) w := by
  simp [fieldPlace, run_size hn, h0]

theorem run_fieldAddrT {s : TypeId} {x tv : TV} {f : Nat} {a : Value} (h : fieldAddrT P s x f = some tv) (ha : relT φ x a) : ∃ v, relT φ tv v ∧ ∀ w, (Instr.fieldAt s a f).run P w = .ok v w := by
  unfold fieldAddrT at h
  split at h
  · rename_i fs hu
    split at h
    · rename_i fd hfd
      have hfd' : fs[f]? = some fd := by simpa using hfd
      split at h
      · cases h
      · rename_i n hn hz
        have hz' : n ≠ 0 := fun e => hn e
        split at h
        · obtain rfl := Option.some.inj h
          obtain ⟨L, hL, rfl⟩ := ha
          exact ⟨_, ⟨L, hL, rfl⟩, fun w => by simp [Instr.fieldAt, run_underlying hu, hfd', Instr.sureAddr, run_fieldPlace _ hz hz', add_zero_off, Nat.add_assoc]⟩
        · obtain rfl := Option.some.inj h
          obtain ⟨L, hL, hn, rfl⟩ := ha
          exact ⟨_, ⟨L, hL, hn, rfl⟩, fun w => by simp [Instr.fieldAt, run_underlying hu, hfd', Instr.sureAddr, run_fieldPlace _ hz hz', add_zero_off, Nat.add_assoc]⟩
        · obtain rfl := Option.some.inj h
          obtain ⟨L, hL, hj, hn, rfl⟩ := ha
          exact ⟨_, ⟨L, hL, hj, hn, rfl⟩, fun w => by simp [Instr.fieldAt, run_underlying hu, hfd', Instr.sureAddr, run_fieldPlace _ hz hz', add_zero_off, Nat.add_assoc]⟩
        · obtain rfl := Option.some.inj h
          obtain ⟨L, LF, b, ob, l0, c0, hL, hF, hi, hm, hj, hjj, rfl⟩ := ha
          exact ⟨_, ⟨L, LF, b, ob, l0, c0, hL, hF, hi, hm, hj, hjj, rfl⟩, fun w => by simp [Instr.fieldAt, run_underlying hu, hfd', Instr.sureAddr, run_fieldPlace _ hz hz', add_zero_off, Nat.add_assoc]⟩
        · cases h
      · cases h
    · cases h
  · cases h

theorem run_fieldT {s : TypeId} {x tv : TV} {f : Nat} {a : Value} (h : fieldT P s x f = some tv) (ha : relT φ x a) : ∃ v, relT φ tv v ∧ ∀ w, (Instr.field s a f).run P w = .ok v w := by
  unfold fieldT at h
  split at h
  · rename_i fs hu
    split at h
    · rename_i fd hfd
      have hfd' : fs[f]? = some fd := by simpa using hfd
      split at h
      · obtain ⟨p, hp, rfl⟩ := Option.map_eq_some_iff.1 h
        obtain ⟨cs, rfl, hcs⟩ := ha
        obtain ⟨v, hv, hrun⟩ := run_part (P := P) hcs hp
        exact ⟨v, hv, fun w => by simp [Instr.field, run_underlying hu, hfd', asAgg, hrun]⟩
      · cases h
    · cases h
  · cases h

theorem within_spec {i : Int} {n : Nat} (h : within i n = true) : 0 ≤ i ∧ i < (n : Int) := by
  simpa [within] using h

theorem run_indexAddrT {y : Option Nat} {t : TypeId} {x ix tv : TV} {a b : Value} (h : (indexAddrT P y t x ix).val = some tv) (ha : relT φ x a) (hb : relT φ ix b) :
    ∃ v, relT φ tv v ∧ ∀ w, (Instr.indexAt t a b).run P w = .ok v w := by
  unfold indexAddrT at h
  split at h
  · rename_i k i
    simp only [relT, relA, relS] at hb
    subst hb
    split at h
    · rename_i len e hu
      split at h
      · rename_i n hn
        split at h
        · obtain ⟨hc, h⟩ := val_chk h
          obtain rfl := val_ok h
          obtain ⟨h0, h1⟩ := within_spec hc
          obtain ⟨L, hL, rfl⟩ := ha
          exact ⟨_, ⟨L, hL, rfl⟩, fun w => by simp [Instr.indexAt, run_underlying hu, asIntOf, Instr.sureAddr, h0, h1, run_size hn, add_zero_off, Nat.add_assoc]⟩
        · obtain ⟨hc, h⟩ := val_chk h
          obtain rfl := val_ok h
          obtain ⟨h0, h1⟩ := within_spec hc
          obtain ⟨L, hL, hnn, rfl⟩ := ha
          exact ⟨_, ⟨L, hL, hnn, rfl⟩, fun w => by simp [Instr.indexAt, run_underlying hu, asIntOf, Instr.sureAddr, h0, h1, run_size hn, add_zero_off, Nat.add_assoc]⟩
        · obtain ⟨hc, h⟩ := val_chk h
          obtain rfl := val_ok h
          obtain ⟨h0, h1⟩ := within_spec hc
          obtain ⟨L, LF, b, ob, l0, c0, hL, hF, hi, hm, hj, hjj, rfl⟩ := ha
          exact ⟨_, ⟨L, LF, b, ob, l0, c0, hL, hF, hi, hm, hj, hjj, rfl⟩, fun w => by simp [Instr.indexAt, run_underlying hu, asIntOf, Instr.sureAddr, h0, h1, run_size hn, add_zero_off, Nat.add_assoc]⟩
        · simp [Tr.val] at h
      · simp [Tr.val] at h
    · rename_i e hu
      split at h
      · rename_i n hn
        split at h
        · split at h
          · rename_i hwd
            subst hwd
            obtain ⟨hc, h⟩ := val_chk h
            obtain rfl := val_ok h
            obtain ⟨h0, h1⟩ := within_spec hc
            rcases ha with ⟨h2, _⟩ | ⟨L, cap, hL, hle, rfl⟩
            · omega
            · exact ⟨_, ⟨L, hL, rfl⟩, fun w => by simp [Instr.indexAt, run_underlying hu, asIntOf, h0, h1, run_size hn, add_zero_off, Nat.add_assoc]⟩
          · simp [Tr.val] at h
        · split at h
          · rename_i hwd
            subst hwd
            obtain ⟨hc, h⟩ := val_chk h
            obtain rfl := val_ok h
            obtain ⟨h0, h1⟩ := within_spec hc
            rcases ha with ⟨h2, _⟩ | ⟨L, cap, hL, hle, hcp, hnn, hsz, rfl⟩
            · omega
            · exact ⟨_, ⟨L, hL, by omega, rfl⟩, fun w => by simp [Instr.indexAt, run_underlying hu, asIntOf, h0, h1, run_size hn, add_zero_off, Nat.add_assoc, Nat.add_mul]⟩
          · simp [Tr.val] at h
        · split at h
          · rename_i hwd
            subst hwd
            obtain ⟨hc, h⟩ := val_chk h
            obtain rfl := val_ok h
            obtain ⟨h0, h1⟩ := within_spec hc
            rcases ha with ⟨h2, _⟩ | ⟨L, hL, hnn, hsz, rfl⟩
            · omega
            · exact ⟨_, ⟨L, hL, by omega, rfl⟩, fun w => by simp [Instr.indexAt, run_underlying hu, asIntOf, h0, h1, run_size hn, add_zero_off, Nat.add_assoc, Nat.add_mul]⟩
          · simp [Tr.val] at h
        · split at h
          · rename_i hwd
            subst hwd
            obtain ⟨hc, h⟩ := val_chk h
            obtain rfl := val_ok h
            obtain ⟨h0, h1⟩ := within_spec hc
            rcases ha with ⟨h2, _⟩ | ⟨L, cap, hL, hle, hnn, rfl⟩
            · omega
            · exact ⟨_, ⟨L, hL, by omega, rfl⟩, fun w => by simp [Instr.indexAt, run_underlying hu, asIntOf, h0, h1, run_size hn, add_zero_off, Nat.add_assoc, Nat.add_mul]⟩
          · simp [Tr.val] at h
        · split at h
          · rename_i hwd
            subst hwd
            obtain ⟨hc, h⟩ := val_chk h
            obtain rfl := val_ok h
            obtain ⟨h0, h1⟩ := within_spec hc
            obtain ⟨L, hL, hn', ha⟩ := ha
            rcases ha with ⟨h2, _⟩ | ⟨cap, hle, hsz, rfl⟩
            · omega
            · exact ⟨_, ⟨L, hL, by omega, rfl⟩, fun w => by simp [Instr.indexAt, run_underlying hu, asIntOf, h0, h1, run_size hn, add_zero_off]⟩
          · simp [Tr.val] at h
        · split at h
          · rename_i hwd
            subst hwd
            obtain ⟨hc, h⟩ := val_chk h
            obtain rfl := val_ok h
            obtain ⟨h0, h1⟩ := within_spec hc
            rcases ha with ⟨h2, _⟩ | ⟨L, cap, hL, hle, hnn, rfl⟩
            · omega
            · exact ⟨_, ⟨L, hL, by omega, rfl⟩, fun w => by simp [Instr.indexAt, run_underlying hu, asIntOf, h0, h1, run_size hn, add_zero_off, Nat.add_assoc, Nat.add_mul]⟩
          · simp [Tr.val] at h
        · split at h
          · rename_i hwd
            subst hwd
            obtain ⟨hc, h⟩ := val_chk h
            obtain rfl := val_ok h
            obtain ⟨h0, h1⟩ := within_spec hc
            obtain ⟨L, LF, hL, hF, hi, hm, ⟨h2, _⟩ | ⟨b, o, cap, rfl, hcap, hle⟩⟩ := ha
            · omega
            · exact ⟨_, ⟨L, LF, b, o, _, cap, hL, hF, hi, hm.symm, by omega, by omega, rfl⟩, fun w => by simp [Instr.indexAt, run_underlying hu, asIntOf, h0, h1, run_size hn, add_zero_off]⟩
          · simp [Tr.val] at h
        · split at h
          · rename_i hwd
            subst hwd
            obtain ⟨hc, h⟩ := val_chk h
            obtain rfl := val_ok h
            obtain ⟨h0, h1⟩ := within_spec hc
            rcases ha with ⟨h2, _⟩ | ⟨L, LF, b, o, l0, c0, cap, hL, hF, hi, hm, hll, hle, rfl⟩
            · omega
            · exact ⟨_, ⟨L, LF, b, o, l0, c0, hL, hF, hi, hm, by omega, by omega, rfl⟩, fun w => by simp [Instr.indexAt, run_underlying hu, asIntOf, h0, h1, run_size hn, add_zero_off, Nat.add_assoc, Nat.add_mul]⟩
          · simp [Tr.val] at h
        · simp [Tr.val] at h
      · simp [Tr.val] at h
    · simp [Tr.val] at h
  · simp [Tr.val] at h

theorem run_indexT {y : Option Nat} {t : TypeId} {x ix tv : TV} {a b : Value} (h : (indexT P y t x ix).val = some tv) (ha : relT φ x a) (hb : relT φ ix b) :
    ∃ v, relT φ tv v ∧ ∀ w, (Instr.index t a b).run P w = .ok v w := by
  unfold indexT at h
  split at h
  · rename_i k i
    simp only [relT, relA, relS] at hb
    subst hb
    split at h
    · rename_i len e hu
      split at h
      · rename_i n hn
        split at h
        · obtain ⟨hc, h⟩ := val_chk h
          rw [val_opt] at h
          obtain ⟨p, hp, rfl⟩ := Option.map_eq_some_iff.1 h
          obtain ⟨h0, h1⟩ := within_spec hc
          obtain ⟨cs, rfl, hcs⟩ := ha
          obtain ⟨v, hv, hrun⟩ := run_part (P := P) hcs hp
          exact ⟨v, hv, fun w => by simp [Instr.index, run_underlying hu, asIntOf, h0, h1, run_size hn, hrun]⟩
        · simp [Tr.val] at h
      · simp [Tr.val] at h
    · simp [Tr.val] at h
  · simp [Tr.val] at h

/-! ### slices -/

/-! ### one of several equal parts -/

theorem asInt_mk {sk : SK} {a : AS} {x : Int} (h : asInt sk a = some x) : mkS sk x = a := by
  unfold asInt at h
  split at h
  · split at h
    · rename_i hk; subst hk; obtain rfl := Option.some.inj h; rfl
    · cases h
  · rename_i y
    obtain rfl := Option.some.inj h
    cases y <;> rfl
  · cases h

theorem colI_get {sk : SK} {l : List AS} {n : Nat} : ∀ {len o : Nat} {xs : List Int}, colI sk l n len o = some xs → xs.length = len ∧ ∀ j, j < len → l[o + j * n]? = some (mkS sk (xs.getD j 0))
  | 0, o, xs, h => by simp [colI] at h; subst h; exact ⟨rfl, fun j hj => by omega⟩
  | m + 1, o, xs, h => by
    simp only [colI] at h
    split at h
    · rename_i a ha
      split at h
      · rename_i x hx
        split at h
        · rename_i ys hys
          obtain rfl := Option.some.inj h
          obtain ⟨h1, h2⟩ := colI_get hys
          refine ⟨by simp [h1], fun j hj => ?_⟩
          cases j with
          | zero => simp only [Nat.zero_mul, Nat.add_zero, List.getD_cons_zero]; rw [asInt_mk hx]; exact ha
          | succ j =>
            rw [List.getD_cons_succ, ← h2 j (by omega)]
            congr 1
            rw [Nat.add_mul]; omega
        · cases h
      · cases h
    · cases h

theorem selS_get {l : List AS} {o n len j : Nat} {a : AS} (h : selS l o n len j = some a) (hj : j < len) : l[o + j * n]? = some a := by
  unfold selS at h
  split at h
  · split at h
    · split at h
      · rename_i xs hxs
        obtain rfl := Option.some.inj h
        exact (colI_get hxs).2 j hj
      · cases h
    · cases h
  · cases h

theorem selSs_get {l : List AS} {n len j : Nat} (hj : j < len) : ∀ {m o : Nat} {r : List AS}, selSs l n len j m o = some r → r = (l.drop (o + j * n)).take m ∧ (m ≠ 0 → o + j * n + m ≤ l.length)
  | 0, o, r, h => by simp [selSs] at h; subst h; simp
  | m + 1, o, r, h => by
    simp only [selSs] at h
    split at h
    · rename_i a ha
      split at h
      · rename_i r' hr
        obtain rfl := Option.some.inj h
        have e1 := selS_get ha hj
        obtain ⟨e2, e3⟩ := selSs_get hj hr
        have hlt : o + j * n < l.length := (List.getElem?_eq_some_iff.1 e1).1
        refine ⟨?_, fun _ => ?_⟩
        · rw [List.drop_eq_getElem_cons hlt, List.take_succ_cons]
          have : l[o + j * n] = a := by rw [List.getElem?_eq_getElem hlt] at e1; exact Option.some.inj e1
          rw [this, e2, show o + 1 + j * n = o + j * n + 1 by omega]
        · rcases Nat.eq_zero_or_pos m with h0 | h0
          · omega
          · have := e3 (by omega); omega
      · cases h
    · cases h

theorem colI_set {sk : SK} {n : Nat} (a : AS) (p : Nat) : ∀ {len o : Nat} {l : List AS}, p < o → colI sk (l.set p a) n len o = colI sk l n len o
  | 0, _, _, _ => rfl
  | m + 1, o, l, hp => by
    simp only [colI]
    rw [List.getElem?_set_ne (by omega), colI_set a p (by omega)]

theorem set_same {l : List AS} {o : Nat} {a : AS} (h : l[o]? = some a) : l.set o a = l := by
  obtain ⟨hlt, rfl⟩ := List.getElem?_eq_some_iff.1 h
  exact List.set_getElem_self hlt

theorem putCol_eq {sk : SK} {n j : Nat} {x : Int} (hn : n ≠ 0) : ∀ {xs : List Int} {j' o : Nat} {l : List AS}, colI sk l n xs.length o = some xs →
    putCol sk n j x xs j' o l = if j' ≤ j ∧ j < j' + xs.length then l.set (o + (j - j') * n) (mkS sk x) else l
  | [], j', o, l, _ => by simp only [putCol, List.length_nil]; rw [if_neg (by omega)]
  | y :: ys, j', o, l, h => by
    simp only [colI, List.length_cons] at h
    split at h
    · rename_i a ha
      split at h
      · rename_i x' hx
        split at h
        · rename_i ys' hys
          obtain ⟨rfl, rfl⟩ := List.cons.inj (Option.some.inj h)
          simp only [putCol]
          rw [putCol_eq hn (by rw [colI_set _ _ (by omega)]; exact hys)]
          by_cases e : j = j'
          · subst e
            simp only [List.length_cons]
            rw [if_neg (by omega), if_pos (by omega)]
            simp
          · have hb : Nat.beq j j' = false := by
              cases hb : Nat.beq j j' with
              | false => rfl
              | true => exact (e (Nat.eq_of_beq_eq_true hb)).elim
            rw [hb, cond_false, asInt_mk hx, set_same ha]
            simp only [List.length_cons]
            by_cases hc : j' + 1 ≤ j ∧ j < j' + 1 + ys'.length
            · rw [if_pos hc, if_pos (by omega)]
              congr 1
              obtain ⟨k, rfl⟩ : ∃ k, j = j' + 1 + k := ⟨j - (j' + 1), by omega⟩
              rw [show j' + 1 + k - (j' + 1) = k by omega, show j' + 1 + k - j' = k + 1 by omega, Nat.add_mul]
              omega
            · rw [if_neg hc, if_neg (by omega)]
        · cases h
      · cases h
    · cases h

theorem setX_eq {l l' : List AS} {o n len j : Nat} {a : AS} (hn : n ≠ 0) (hj : j < len) (h : setX l o n len j a = some l') : l' = l.set (o + j * n) a ∧ o + j * n < l.length := by
  unfold setX at h
  split at h
  · split at h
    · rename_i sk _
      split at h
      · rename_i x hx
        split at h
        · rename_i xs hxs
          obtain rfl := Option.some.inj h
          obtain ⟨e1, e2⟩ := colI_get hxs
          have := e2 j hj
          refine ⟨?_, (List.getElem?_eq_some_iff.1 this).1⟩
          rw [putCol_eq hn (by rw [e1]; exact hxs), if_pos (by omega), asInt_mk hx]
          simp
        · cases h
      · cases h
    · cases h
  · cases h

theorem setAll_cons {l : List AS} {o : Nat} {a : AS} {as : List AS} (h : o < l.length) : setAll l o (a :: as) = setAll (l.set o a) (o + 1) as := by
  unfold setAll
  have e1 : (l.set o a).take (o + 1) = l.take o ++ [a] := by
    rw [List.take_add_one, List.take_set_of_le (Nat.le_refl o)]
    simp [h]
  have e2 : (l.set o a).drop (o + 1 + as.length) = l.drop (o + (a :: as).length) := by
    rw [List.drop_set_of_lt (by omega)]
    congr 1
    simp only [List.length_cons]; omega
  rw [e1, e2]
  simp

theorem setAll_nil {l : List AS} {o : Nat} (h : o ≤ l.length) : setAll l o [] = l := by simp [setAll]

theorem setXs_eq {n len j : Nat} (hn : n ≠ 0) (hj : j < len) : ∀ {vs : List AS} {o : Nat} {l l' : List AS}, setXs n len j vs o l = some l' → vs ≠ [] → l' = setAll l (o + j * n) vs ∧ o + j * n + vs.length ≤ l.length
  | [], _, _, _, _, h0 => (h0 rfl).elim
  | a :: as, o, l, l', h, _ => by
    simp only [setXs] at h
    split at h
    · rename_i l1 hl1
      obtain ⟨rfl, e2⟩ := setX_eq hn hj hl1
      rcases as with _ | ⟨b, bs⟩
      · simp only [setXs, Option.some.injEq] at h
        subst h
        refine ⟨?_, by simp; omega⟩
        rw [setAll_cons e2, setAll_nil (by simp; omega)]
      · obtain ⟨e3, e4⟩ := setXs_eq hn hj h (by simp)
        simp only [List.length_set] at e4
        refine ⟨?_, by simp only [List.length_cons] at e4 ⊢; omega⟩
        rw [e3, setAll_cons e2, show o + 1 + j * n = o + j * n + 1 by omega]
    · cases h

theorem run_indexAddrX {y : Option Nat} {t : TypeId} {x ix tv : TV} {a b : Value} (h : (indexAddrX P y t x ix).val = some tv) (ha : relT φ x a) (hb : relT φ ix b) :
    ∃ v, relT φ tv v ∧ ∀ w, (Instr.indexAt t a b).run P w = .ok v w := by
  unfold indexAddrX at h
  split at h
  · rename_i k i
    simp only [relT, relA, relS] at hb
    subst hb
    split at h
    · rename_i len e hu
      split at h
      · rename_i n hn
        split at h
        · split at h
          · simp [Tr.val] at h
          obtain ⟨hc, h⟩ := val_chk h
          obtain rfl := val_ok h
          obtain ⟨h0, h1⟩ := within_spec hc
          obtain ⟨L, hL, rfl⟩ := ha
          refine ⟨_, ⟨L, hL, by omega, .inl rfl, rfl⟩, fun w => by simp [Instr.indexAt, run_underlying hu, asIntOf, Instr.sureAddr, h0, h1, run_size hn, add_zero_off, Nat.add_assoc]⟩
        · split at h
          · simp [Tr.val] at h
          obtain ⟨hc, h⟩ := val_chk h
          obtain rfl := val_ok h
          obtain ⟨h0, h1⟩ := within_spec hc
          obtain ⟨L, hL, hnn, rfl⟩ := ha
          exact ⟨_, ⟨L, hL, by omega, .inr hnn, rfl⟩, fun w => by simp [Instr.indexAt, run_underlying hu, asIntOf, Instr.sureAddr, h0, h1, run_size hn, add_zero_off, Nat.add_assoc]⟩
        · obtain ⟨hc, h⟩ := val_chk h
          obtain rfl := val_ok h
          obtain ⟨h0, h1⟩ := within_spec hc
          obtain ⟨L, LF, b, ob, l0, c0, hL, hF, hi, hm, hj, hjj, rfl⟩ := ha
          exact ⟨_, ⟨L, LF, b, ob, l0, c0, hL, hF, hi, hm, hj, by omega, rfl⟩, fun w => by simp [Instr.indexAt, run_underlying hu, asIntOf, Instr.sureAddr, h0, h1, run_size hn, add_zero_off, Nat.add_assoc, Nat.add_comm, Nat.add_left_comm]⟩
        · simp [Tr.val] at h
      · simp [Tr.val] at h
    · rename_i e hu
      split at h
      · rename_i n hn
        split at h
        · split at h
          · rename_i hwd
            obtain ⟨rfl, hn0⟩ := hwd
            obtain ⟨hc, h⟩ := val_chk h
            obtain rfl := val_ok h
            obtain ⟨h0, h1⟩ := within_spec hc
            rcases ha with ⟨h2, _⟩ | ⟨L, cap, hL, hle, rfl⟩
            · omega
            · exact ⟨_, ⟨L, hL, by omega, .inl rfl, rfl⟩, fun w => by simp [Instr.indexAt, run_underlying hu, asIntOf, h0, h1, run_size hn, add_zero_off, Nat.add_assoc]⟩
          · simp [Tr.val] at h
        · simp [Tr.val] at h
      · simp [Tr.val] at h
    · simp [Tr.val] at h
  · simp [Tr.val] at h

theorem run_indexAddrS {y : Option Nat} {t : TypeId} {x ix tv : TV} {a b : Value} (h : (indexAddrS P y t x ix).val = some tv) (ha : relT φ x a) (hb : relT φ ix b) :
    ∃ v, relT φ tv v ∧ ∀ w, (Instr.indexAt t a b).run P w = .ok v w := by
  unfold indexAddrS at h
  split at h
  · exact run_indexAddrX h ha hb
  · exact run_indexAddrT h ha hb

theorem partX_part {e : TypeId} {l : List AS} {n len j : Nat} {a : AV} (hn : sizeT P e = some n) (hj : j < len) (h : partX P e l n len j = some a) : partA P e l (j * n) = some a := by
  unfold partX at h
  unfold partA
  split at h
  · rename_i hag
    obtain ⟨r, hr, rfl⟩ := Option.map_eq_some_iff.1 h
    obtain ⟨rfl, _⟩ := selSs_get hj hr
    simp only [hag, hn, Nat.zero_add]
  · rename_i hag
    obtain ⟨r, hr, rfl⟩ := Option.map_eq_some_iff.1 h
    have := selS_get hr hj
    rw [Nat.zero_add] at this
    simp only [hag, this, Option.map_some]
  · cases h

theorem run_indexX {y : Option Nat} {t : TypeId} {x ix tv : TV} {a b : Value} (h : (indexX P y t x ix).val = some tv) (ha : relT φ x a) (hb : relT φ ix b) :
    ∃ v, relT φ tv v ∧ ∀ w, (Instr.index t a b).run P w = .ok v w := by
  refine run_indexT (y := none) ?_ ha hb
  unfold indexX at h
  unfold indexT
  split at h
  · split at h
    · rename_i len e hu
      split at h
      · rename_i n hn
        split at h
        · obtain ⟨hc, h⟩ := val_chk h
          rw [val_opt] at h
          obtain ⟨p, hp, rfl⟩ := Option.map_eq_some_iff.1 h
          obtain ⟨h0, h1⟩ := within_spec hc
          have := partX_part hn (by omega) hp
          simp only [hu, hn, this, hc, chk, Option.map_some, opt, Tr.val]
        · simp [Tr.val] at h
      · simp [Tr.val] at h
    · simp [Tr.val] at h
  · simp [Tr.val] at h

theorem run_indexS {y : Option Nat} {t : TypeId} {x ix tv : TV} {a b : Value} (h : (indexS P y t x ix).val = some tv) (ha : relT φ x a) (hb : relT φ ix b) :
    ∃ v, relT φ tv v ∧ ∀ w, (Instr.index t a b).run P w = .ok v w := by
  unfold indexS at h
  split at h
  · exact run_indexX h ha hb
  · exact run_indexT h ha hb

theorem intT_rel {x : TV} {v : Value} {i : Int} (h : intT x = some i) (hx : relT φ x v) : ∃ k, v = .int k i := by
  unfold intT at h
  split at h
  · rename_i k j
    obtain rfl := Option.some.inj h
    exact ⟨k, hx⟩
  · cases h

theorem run_sliceBound_in {k : IntKind} {i : Int} {y : Nat} (code : BoundsCode) (h0 : 0 ≤ i) (h1 : i ≤ (y : Int)) (w : World) : (Instr.sliceBound (.int k i) y code).run P w = .ok i.toNat w := by
  simp [Instr.sliceBound, asIntOf, h0, h1]

theorem run_sliceBounds {lo hi mx : Option TV} {lo' hi' mx' : Option Value} {len cp cap : Nat} {l h m : Int} (isS : Bool) (hb : boundsT lo hi mx len cp = some (l, h, m)) (hok : boundsOk hi.isSome mx.isSome len cp l h m = true)
    (hlo : ∀ x, lo = some x → ∃ v, lo' = some v ∧ relT φ x v) (hhi : ∀ x, hi = some x → ∃ v, hi' = some v ∧ relT φ x v) (hmx : ∀ x, mx = some x → ∃ v, mx' = some v ∧ relT φ x v)
    (nlo : lo = none → lo' = none) (nhi : hi = none → hi' = none) (nmx : mx = none → mx' = none) (hl : len ≤ cp) (hc : cp ≤ cap) :
    ∃ m' : Nat, l.toNat ≤ h.toNat ∧ h.toNat ≤ m' ∧ m' ≤ cap ∧ h.toNat ≤ cp ∧ (mx = none → m' = cap) ∧ (mx ≠ none → m' = h.toNat) ∧ ∀ w, (Instr.sliceBounds isS len cap lo' hi' mx').run P w = .ok (l.toNat, h.toNat, m') w := by
  unfold boundsT at hb
  cases mx with
  | some xm =>
    obtain ⟨vm, rfl, rm⟩ := hmx xm rfl
    cases hi with
    | none => cases hm : intT xm <;> simp [hm] at hb
    | some xh =>
      obtain ⟨vh, rfl, rh⟩ := hhi xh rfl
      cases hm : intT xm with
      | none => simp [hm] at hb
      | some m0 =>
        cases hh : intT xh with
        | none => simp [hm, hh] at hb
        | some h' =>
          obtain ⟨km, rfl⟩ := intT_rel hm rm
          obtain ⟨kh, rfl⟩ := intT_rel hh rh
          cases lo with
          | none =>
            rw [nlo rfl]
            simp [hm, hh] at hb
            obtain ⟨rfl, rfl, rfl⟩ := hb
            simp [boundsOk] at hok
            obtain ⟨⟨h1, h2⟩, h3⟩ := hok
            subst h2
            refine ⟨m0.toNat, by omega, by omega, by omega, by omega, by simp, by simp, fun w => ?_⟩
            simp only [Instr.sliceBounds, Sem.run_bind, Sem.run_pure, Result.andThen_ok, run_sliceBound_in _ (show 0 ≤ m0 by omega) (show m0 ≤ (cap : Int) by omega), run_sliceBound_in _ (show 0 ≤ m0 by omega) (show m0 ≤ ((m0.toNat : Nat) : Int) by omega)]; rfl
          | some xl =>
            obtain ⟨vl, rfl, rl⟩ := hlo xl rfl
            cases hl : intT xl with
            | none => simp [hm, hh, hl] at hb
            | some l' =>
              obtain ⟨kl, rfl⟩ := intT_rel hl rl
              simp [hm, hh, hl] at hb
              obtain ⟨rfl, rfl, rfl⟩ := hb
              simp [boundsOk] at hok
              obtain ⟨⟨⟨h0, h1⟩, h2⟩, h3⟩ := hok
              subst h2
              refine ⟨m0.toNat, by omega, by omega, by omega, by omega, by simp, by simp, fun w => ?_⟩
              simp only [Instr.sliceBounds, Sem.run_bind, Sem.run_pure, Result.andThen_ok, run_sliceBound_in _ (show 0 ≤ m0 by omega) (show m0 ≤ (cap : Int) by omega), run_sliceBound_in _ (show 0 ≤ m0 by omega) (show m0 ≤ ((m0.toNat : Nat) : Int) by omega), run_sliceBound_in _ h0 (show l' ≤ ((m0.toNat : Nat) : Int) by omega)]
  | none =>
    rw [nmx rfl]
    cases hi with
    | none =>
      rw [nhi rfl]
      cases lo with
      | none =>
        rw [nlo rfl]
        simp at hb
        obtain ⟨rfl, rfl, rfl⟩ := hb
        refine ⟨cap, by omega, by omega, Nat.le_refl _, by omega, by simp, by simp, fun w => ?_⟩
        simp [Instr.sliceBounds]
      | some xl =>
        obtain ⟨vl, rfl, rl⟩ := hlo xl rfl
        cases hl : intT xl with
        | none => simp [hl] at hb
        | some l' =>
          obtain ⟨kl, rfl⟩ := intT_rel hl rl
          simp [hl] at hb
          obtain ⟨rfl, rfl, rfl⟩ := hb
          simp [boundsOk] at hok
          refine ⟨cap, by omega, by omega, Nat.le_refl _, by omega, by simp, by simp, fun w => ?_⟩
          simp only [Instr.sliceBounds, Sem.run_bind, Sem.run_pure, Result.andThen_ok, run_sliceBound_in _ hok.1 hok.2]
          rfl
    | some xh =>
      obtain ⟨vh, rfl, rh⟩ := hhi xh rfl
      cases hh : intT xh with
      | none => simp [hh] at hb
      | some h' =>
        obtain ⟨kh, rfl⟩ := intT_rel hh rh
        cases lo with
        | none =>
          rw [nlo rfl]
          simp [hh] at hb
          obtain ⟨rfl, rfl, rfl⟩ := hb
          simp [boundsOk] at hok
          obtain ⟨h1, h2⟩ := hok
          refine ⟨cap, by omega, by omega, Nat.le_refl _, by omega, by simp, by simp, fun w => ?_⟩
          simp only [Instr.sliceBounds, Sem.run_bind, Sem.run_pure, Result.andThen_ok, run_sliceBound_in _ h1 (show h' ≤ (cap : Int) by omega)]
          rfl
        | some xl =>
          obtain ⟨vl, rfl, rl⟩ := hlo xl rfl
          cases hl : intT xl with
          | none => simp [hh, hl] at hb
          | some l' =>
            obtain ⟨kl, rfl⟩ := intT_rel hl rl
            simp [hh, hl] at hb
            obtain ⟨rfl, rfl, rfl⟩ := hb
            simp [boundsOk] at hok
            obtain ⟨⟨h0, h1⟩, h2⟩ := hok
            refine ⟨cap, by omega, by omega, Nat.le_refl _, by omega, by simp, by simp, fun w => ?_⟩
            simp only [Instr.sliceBounds, Sem.run_bind, Sem.run_pure, Result.andThen_ok, run_sliceBound_in _ (show 0 ≤ h' by omega) (show h' ≤ (cap : Int) by omega), run_sliceBound_in _ h0 (show l' ≤ ((h'.toNat : Nat) : Int) by omega)]

theorem run_full3 {lo hi mx : Option TV} {lo' hi' mx' : Option Value} {len cap : Nat} {l h m : Int} (isS : Bool) (hb : full3 lo hi mx = some (l, h, m)) (hok : 0 ≤ l ∧ l ≤ h ∧ h ≤ m ∧ m ≤ (len : Int))
    (hlo : ∀ x, lo = some x → ∃ v, lo' = some v ∧ relT φ x v) (hhi : ∀ x, hi = some x → ∃ v, hi' = some v ∧ relT φ x v) (hmx : ∀ x, mx = some x → ∃ v, mx' = some v ∧ relT φ x v) (hc : len ≤ cap) :
    ∀ w, (Instr.sliceBounds isS len cap lo' hi' mx').run P w = .ok (l.toNat, h.toNat, m.toNat) w := by
  obtain ⟨c0, c1, c2, c3⟩ := hok
  cases lo with
  | none => simp [full3] at hb
  | some xl =>
    cases hi with
    | none => simp [full3] at hb
    | some xh =>
      cases mx with
      | none => simp [full3] at hb
      | some xm =>
        obtain ⟨vl, rfl, rl⟩ := hlo xl rfl
        obtain ⟨vh, rfl, rh⟩ := hhi xh rfl
        obtain ⟨vm, rfl, rm⟩ := hmx xm rfl
        cases e1 : intT xl with
        | none => simp [full3, e1] at hb
        | some l' =>
          cases e2 : intT xh with
          | none => simp [full3, e1, e2] at hb
          | some h' =>
            cases e3 : intT xm with
            | none => simp [full3, e1, e2, e3] at hb
            | some m' =>
              obtain ⟨kl, rfl⟩ := intT_rel e1 rl
              obtain ⟨kh, rfl⟩ := intT_rel e2 rh
              obtain ⟨km, rfl⟩ := intT_rel e3 rm
              simp [full3, e1, e2, e3] at hb
              obtain ⟨rfl, rfl, rfl⟩ := hb
              intro w
              simp only [Instr.sliceBounds, Sem.run_bind, Sem.run_pure, Result.andThen_ok, run_sliceBound_in _ (show 0 ≤ m' by omega) (show m' ≤ (cap : Int) by omega), run_sliceBound_in _ (show 0 ≤ h' by omega) (show h' ≤ ((m'.toNat : Nat) : Int) by omega), run_sliceBound_in _ c0 (show l' ≤ ((h'.toNat : Nat) : Int) by omega)]

theorem map_some {α β : Type} {f : α → β} {o : Option α} {x : α} {R : β → Prop} (h : o = some x) (hr : R (f x)) : ∃ v, o.map f = some v ∧ R v := by
  subst h; exact ⟨_, rfl, hr⟩

theorem mems_slice {t el : TypeId} {id F wd r lo len : Nat} {a : Value} {lo' hi' mx' : Option Value} {l hh : Nat} (hu : P.underlying t = some (.slice el)) (hwd : sizeT P el = some wd) (ha : relS φ (.mems id F wd r lo len) a)
    (hb : ∀ cap, len ≤ cap → ∃ m' : Nat, l ≤ hh ∧ hh ≤ m' ∧ m' ≤ cap ∧ hh ≤ len ∧ ∀ w, (Instr.sliceBounds true len cap lo' hi' mx').run P w = .ok (l, hh, m') w) :
    ∃ v, relS φ (.mems id F wd r (lo + l) (hh - l)) v ∧ ∀ w, (Instr.sliceAt t a lo' hi' mx').run P w = .ok v w := by
  rcases ha with ⟨h2, a0, rfl⟩ | ⟨L, LF, b, o, l0, c0, cap, hL, hF, hi, hm, hll, hle, rfl⟩
  · subst h2
    obtain ⟨m', h0, h1, h2', h3, hrun⟩ := hb 0 (Nat.le_refl _)
    refine ⟨.slice a0 0 0, .inl ⟨by omega, a0, rfl⟩, fun w => ?_⟩
    have e1 : m' = l := by omega
    simp [Instr.sliceAt, Instr.slice, run_underlying hu, hrun, run_size hwd, e1]
    omega
  · obtain ⟨m', h0, h1, h2', h3, hrun⟩ := hb cap hle
    by_cases e1 : m' = l
    · refine ⟨.slice (some ⟨b, o + lo * wd, none⟩) 0 0, .inl ⟨by omega, _, rfl⟩, fun w => ?_⟩
      simp [Instr.sliceAt, Instr.slice, run_underlying hu, hrun, run_size hwd, e1]
      omega
    · refine ⟨.slice (some ⟨b, o + (lo + l) * wd, none⟩) (hh - l) (m' - l), .inr ⟨L, LF, b, o, l0, c0, m' - l, hL, hF, hi, hm, by omega, by omega, rfl⟩, fun w => ?_⟩
      simp [Instr.sliceAt, Instr.slice, run_underlying hu, hrun, run_size hwd, e1, add_zero_off, Nat.add_assoc, Nat.add_mul]

theorem run_sliceT {y : Option Nat} {t : TypeId} {x tv : TV} {lo hi mx : Option Operand} {ρ : Operand → TV} {e : Operand → Value} (hρ : ∀ x, relT φ (ρ x) (e x)) {a : Value}
    (h : (sliceT P y t x (lo.map ρ) (hi.map ρ) (mx.map ρ)).val = some tv) (ha : relT φ x a) : ∃ v, relT φ tv v ∧ ∀ w, (Instr.sliceAt t a (lo.map e) (hi.map e) (mx.map e)).run P w = .ok v w := by
  have hb : ∀ {len cp cap : Nat} {l h m : Int} (isS : Bool), boundsT (lo.map ρ) (hi.map ρ) (mx.map ρ) len cp = some (l, h, m) → boundsOk (hi.map ρ).isSome (mx.map ρ).isSome len cp l h m = true → len ≤ cp → cp ≤ cap →
      ∃ m' : Nat, l.toNat ≤ h.toNat ∧ h.toNat ≤ m' ∧ m' ≤ cap ∧ h.toNat ≤ cp ∧ (mx.map ρ = none → m' = cap) ∧ (mx.map ρ ≠ none → m' = h.toNat) ∧ ∀ w, (Instr.sliceBounds isS len cap (lo.map e) (hi.map e) (mx.map e)).run P w = .ok (l.toNat, h.toNat, m') w := by
    intro len cp cap l h m isS h1 h2 h3 h4
    have g : ∀ (o : Option Operand) (x : TV), o.map ρ = some x → ∃ v, o.map e = some v ∧ relT φ x v := by
      intro o x hx
      obtain ⟨z, rfl, rfl⟩ := Option.map_eq_some_iff.1 hx
      exact ⟨_, rfl, hρ z⟩
    have g' : ∀ (o : Option Operand), o.map ρ = none → o.map e = none := by
      intro o hx
      have := Option.map_eq_none_iff.1 hx
      subst this; rfl
    exact run_sliceBounds isS h1 h2 (g lo) (g hi) (g mx) (g' lo) (g' hi) (g' mx) h3 h4
  have hb3 : ∀ {len cap : Nat} {l h m : Int} (isS : Bool), full3 (lo.map ρ) (hi.map ρ) (mx.map ρ) = some (l, h, m) → (0 ≤ l ∧ l ≤ h ∧ h ≤ m ∧ m ≤ (len : Int)) → len ≤ cap → ∀ w, (Instr.sliceBounds isS len cap (lo.map e) (hi.map e) (mx.map e)).run P w = .ok (l.toNat, h.toNat, m.toNat) w := by
    intro len cap l h m isS h1 h2 h3
    have g : ∀ (o : Option Operand) (x : TV), o.map ρ = some x → ∃ v, o.map e = some v ∧ relT φ x v := by
      intro o x hx
      obtain ⟨z, rfl, rfl⟩ := Option.map_eq_some_iff.1 hx
      exact ⟨_, rfl, hρ z⟩
    exact run_full3 isS h1 h2 (g lo) (g hi) (g mx) h3
  generalize hmx : mx.map ρ = mxT at h hb hb3
  unfold sliceT at h
  split at h
  · rename_i n el hu
    split at h
    · rename_i wd hwd
      split at h
      · rename_i id o l hh m hbd
        obtain ⟨hc, h⟩ := val_chk h
        obtain rfl := val_ok h
        obtain ⟨L, hL, rfl⟩ := ha
        obtain ⟨m', h0, h1, h2, h3, h4, h5, hrun⟩ := hb false hbd hc (Nat.le_refl n) (Nat.le_refl n)
        by_cases e1 : m' = l.toNat
        · refine ⟨.slice (some ⟨L.b, L.base + o, none⟩) 0 0, .inl ⟨by omega, _, rfl⟩, fun w => ?_⟩
          simp [Instr.sliceAt, run_underlying hu, Instr.sureAddr, hrun, run_size hwd, e1]
          omega
        · refine ⟨.slice (some ⟨L.b, L.base + (o + l.toNat * wd), none⟩) (hh.toNat - l.toNat) (m' - l.toNat), .inr ⟨L, m' - l.toNat, hL, by omega, rfl⟩, fun w => ?_⟩
          simp [Instr.sliceAt, run_underlying hu, Instr.sureAddr, hrun, run_size hwd, e1, add_zero_off, Nat.add_assoc]
      · simp [Tr.val] at h
    · simp [Tr.val] at h
  · rename_i el hu
    split at h
    · rename_i wd hwd
      split at h
      · rename_i id wd' o len
        split at h
        · rename_i l hh m hbd
          split at h
          · rename_i hw
            subst hw
            obtain ⟨hc, h⟩ := val_chk h
            obtain rfl := val_ok h
            rcases ha with ⟨h2, a0, rfl⟩ | ⟨L, cap, hL, hle, rfl⟩
            · subst h2
              obtain ⟨m', h0, h1, h2', h3, h4, h5, hrun⟩ := hb true hbd hc (Nat.le_refl 0) (Nat.le_refl 0)
              refine ⟨.slice a0 0 0, .inl ⟨by omega, a0, rfl⟩, fun w => ?_⟩
              have e1 : m' = l.toNat := by omega
              simp [Instr.sliceAt, Instr.slice, run_underlying hu, hrun, run_size hwd, e1]
              omega
            · obtain ⟨m', h0, h1, h2', h3, h4, h5, hrun⟩ := hb true hbd hc (Nat.le_refl _) hle
              by_cases e1 : m' = l.toNat
              · refine ⟨.slice (some ⟨L.b, L.base + o, none⟩) 0 0, .inl ⟨by omega, _, rfl⟩, fun w => ?_⟩
                simp [Instr.sliceAt, Instr.slice, run_underlying hu, hrun, run_size hwd, e1]
                omega
              · refine ⟨.slice (some ⟨L.b, L.base + (o + l.toNat * wd), none⟩) (hh.toNat - l.toNat) (m' - l.toNat), .inr ⟨L, m' - l.toNat, hL, by omega, rfl⟩, fun w => ?_⟩
                simp [Instr.sliceAt, Instr.slice, run_underlying hu, hrun, run_size hwd, e1, add_zero_off, Nat.add_assoc]
          · simp [Tr.val] at h
        · simp [Tr.val] at h
      · rename_i id wd' r len cp
        split at h
        · rename_i l hh m hbd
          split at h
          · rename_i hw
            subst hw
            obtain ⟨hc, h⟩ := val_chk h
            obtain rfl := val_ok h
            rcases ha with ⟨h2, h2c, a0, rfl⟩ | ⟨L, cap, hL, hle, hcp, hnn, hsz, rfl⟩
            · subst h2; subst h2c
              obtain ⟨m', h0, h1, h2', h3, h4, h5, hrun⟩ := hb true hbd hc (Nat.le_refl 0) (Nat.le_refl 0)
              refine ⟨.slice a0 0 0, ?_, fun w => ?_⟩
              · cases mxT with
                | none => exact .inl ⟨by omega, by omega, a0, rfl⟩
                | some _ => exact .inl ⟨by omega, a0, rfl⟩
              · have e1 : m' = l.toNat := by omega
                simp [Instr.sliceAt, Instr.slice, run_underlying hu, hrun, run_size hwd, e1]
                omega
            · obtain ⟨m', h0, h1, h2', h3, h4, h5, hrun⟩ := hb true hbd hc hle hcp
              by_cases e1 : m' = l.toNat
              · refine ⟨.slice (some ⟨L.b, L.base + r * wd, none⟩) 0 0, ?_, fun w => ?_⟩
                · cases mxT with
                  | none => exact .inl ⟨by omega, by have := h4 rfl; omega, _, rfl⟩
                  | some _ => exact .inl ⟨by omega, _, rfl⟩
                · simp [Instr.sliceAt, Instr.slice, run_underlying hu, hrun, run_size hwd, e1]
                  omega
              · have hle2 : (r + l.toNat + (m' - l.toNat)) * wd ≤ (r + cap) * wd := Nat.mul_le_mul_right _ (by omega)
                refine ⟨.slice (some ⟨L.b, L.base + (r + l.toNat) * wd, none⟩) (hh.toNat - l.toNat) (m' - l.toNat), ?_, fun w => ?_⟩
                · cases mxT with
                  | none => exact .inr ⟨L, m' - l.toNat, hL, by omega, by have := h4 rfl; omega, by omega, by omega, rfl⟩
                  | some _ =>
                    have := h5 (by simp)
                    exact .inr ⟨L, hL, by omega, by rw [← this]; omega, by rw [this]⟩
                · simp [Instr.sliceAt, Instr.slice, run_underlying hu, hrun, run_size hwd, e1, add_zero_off, Nat.add_assoc, Nat.add_mul]
          · simp [Tr.val] at h
        · simp [Tr.val] at h
      · rename_i id wd' len
        have ha := slr_of_slw ha
        split at h
        · rename_i l hh m hbd
          split at h
          · rename_i hw
            subst hw
            obtain ⟨hc, h⟩ := val_chk h
            obtain rfl := val_ok h
            simp only [Bool.and_eq_true, decide_eq_true_eq] at hc
            obtain ⟨⟨⟨c0, c1⟩, c2⟩, c3⟩ := hc
            rcases ha with ⟨h2, h2c, a0, rfl⟩ | ⟨L, cap, hL, hle, hcp, hnn, hsz, rfl⟩
            · subst h2
              have hrun := hb3 true hbd ⟨c0, c1, c2, c3⟩ (Nat.le_refl 0)
              refine ⟨.slice a0 0 0, .inl ⟨by omega, by omega, a0, rfl⟩, fun w => ?_⟩
              have e1 : m.toNat = l.toNat := by omega
              simp [Instr.sliceAt, Instr.slice, run_underlying hu, hrun, run_size hwd, e1]
              omega
            · have hrun := hb3 true hbd ⟨c0, c1, c2, c3⟩ hcp
              by_cases e1 : m.toNat = l.toNat
              · refine ⟨.slice (some ⟨L.b, L.base + 0 * wd, none⟩) 0 0, .inl ⟨by omega, by omega, _, rfl⟩, fun w => ?_⟩
                simp [Instr.sliceAt, Instr.slice, run_underlying hu, hrun, run_size hwd, e1]
                omega
              · have hle2 : (0 + l.toNat + (m.toNat - l.toNat)) * wd ≤ (0 + cap) * wd := Nat.mul_le_mul_right _ (by omega)
                refine ⟨.slice (some ⟨L.b, L.base + (0 + l.toNat) * wd, none⟩) (hh.toNat - l.toNat) (m.toNat - l.toNat), .inr ⟨L, m.toNat - l.toNat, hL, by omega, by omega, by omega, by omega, rfl⟩, fun w => ?_⟩
                simp [Instr.sliceAt, Instr.slice, run_underlying hu, hrun, run_size hwd, e1, add_zero_off, Nat.add_assoc, Nat.add_mul]
          · simp [Tr.val] at h
        · split at h
          · rename_i l hh m hbd
            split at h
            · rename_i hw
              subst hw
              obtain ⟨hc, h⟩ := val_chk h
              obtain rfl := val_ok h
              rcases ha with ⟨h2, h2c, a0, rfl⟩ | ⟨L, cap, hL, hle, hcp, hnn, hsz, rfl⟩
              · subst h2
                obtain ⟨m', h0, h1, h2', h3, h4, h5, hrun⟩ := hb true hbd hc (Nat.le_refl 0) (Nat.le_refl 0)
                refine ⟨.slice a0 0 0, ?_, fun w => ?_⟩
                · cases mxT with
                  | none => exact .inl ⟨by omega, by omega, a0, rfl⟩
                  | some _ => exact .inl ⟨by omega, a0, rfl⟩
                · have e1 : m' = l.toNat := by omega
                  simp [Instr.sliceAt, Instr.slice, run_underlying hu, hrun, run_size hwd, e1]
                  omega
              · obtain ⟨m', h0, h1, h2', h3, h4, h5, hrun⟩ := hb true hbd hc hle hcp
                by_cases e1 : m' = l.toNat
                · refine ⟨.slice (some ⟨L.b, L.base + 0 * wd, none⟩) 0 0, ?_, fun w => ?_⟩
                  · cases mxT with
                    | none => exact .inl ⟨by omega, by have := h4 rfl; omega, _, rfl⟩
                    | some _ => exact .inl ⟨by omega, _, rfl⟩
                  · simp [Instr.sliceAt, Instr.slice, run_underlying hu, hrun, run_size hwd, e1]
                    omega
                · have hle2 : (0 + l.toNat + (m' - l.toNat)) * wd ≤ (0 + cap) * wd := Nat.mul_le_mul_right _ (by omega)
                  refine ⟨.slice (some ⟨L.b, L.base + (0 + l.toNat) * wd, none⟩) (hh.toNat - l.toNat) (m' - l.toNat), ?_, fun w => ?_⟩
                  · cases mxT with
                    | none => exact .inr ⟨L, m' - l.toNat, hL, by omega, by have := h4 rfl; omega, by omega, by omega, rfl⟩
                    | some _ =>
                      have := h5 (by simp)
                      exact .inr ⟨L, hL, by omega, by rw [← this]; omega, by rw [this]⟩
                  · simp [Instr.sliceAt, Instr.slice, run_underlying hu, hrun, run_size hwd, e1, add_zero_off, Nat.add_assoc, Nat.add_mul]
            · simp [Tr.val] at h
          · simp [Tr.val] at h
      · rename_i id wd' r len
        split at h
        · rename_i l hh m hbd
          split at h
          · rename_i hw
            subst hw
            obtain ⟨hc, h⟩ := val_chk h
            obtain rfl := val_ok h
            rcases ha with ⟨h2, a0, rfl⟩ | ⟨L, hL, hnn, hsz, rfl⟩
            · subst h2
              obtain ⟨m', h0, h1, h2', h3, h4, h5, hrun⟩ := hb true hbd hc (Nat.le_refl 0) (Nat.le_refl 0)
              refine ⟨.slice a0 0 0, ?_, fun w => ?_⟩
              · cases mxT with
                | none => exact .inl ⟨by omega, by omega, a0, rfl⟩
                | some _ => exact .inl ⟨by omega, a0, rfl⟩
              · have e1 : m' = l.toNat := by omega
                simp [Instr.sliceAt, Instr.slice, run_underlying hu, hrun, run_size hwd, e1]
                omega
            · obtain ⟨m', h0, h1, h2', h3, h4, h5, hrun⟩ := hb true hbd hc (Nat.le_refl _) (Nat.le_refl _)
              by_cases e1 : m' = l.toNat
              · refine ⟨.slice (some ⟨L.b, L.base + r * wd, none⟩) 0 0, ?_, fun w => ?_⟩
                · cases mxT with
                  | none => exact .inl ⟨by omega, by have := h4 rfl; omega, _, rfl⟩
                  | some _ => exact .inl ⟨by omega, _, rfl⟩
                · simp [Instr.sliceAt, Instr.slice, run_underlying hu, hrun, run_size hwd, e1]
                  omega
              · have hle2 : (r + l.toNat + (m' - l.toNat)) * wd ≤ (r + len) * wd := Nat.mul_le_mul_right _ (by omega)
                refine ⟨.slice (some ⟨L.b, L.base + (r + l.toNat) * wd, none⟩) (hh.toNat - l.toNat) (m' - l.toNat), ?_, fun w => ?_⟩
                · cases mxT with
                  | none => exact .inr ⟨L, m' - l.toNat, hL, by omega, by have := h4 rfl; omega, by omega, by omega, rfl⟩
                  | some _ =>
                    have := h5 (by simp)
                    exact .inr ⟨L, hL, by omega, by rw [← this]; omega, by rw [this]⟩
                · simp [Instr.sliceAt, Instr.slice, run_underlying hu, hrun, run_size hwd, e1, add_zero_off, Nat.add_assoc, Nat.add_mul]
          · simp [Tr.val] at h
        · simp [Tr.val] at h
      · rename_i id wd' len cp
        split at h
        · rename_i l hh m hbd
          split at h
          · rename_i hw
            subst hw
            obtain ⟨hc, h⟩ := val_chk h
            obtain rfl := val_ok h
            simp only [Bool.and_eq_true, decide_eq_true_eq] at hc
            obtain ⟨hc, hlen⟩ := hc
            obtain ⟨L, hL, hLn, hncp, ha⟩ := ha
            rcases ha with ⟨h2, a0, rfl⟩ | ⟨cap, hle, hsz, rfl⟩
            · have hl0 : len = 0 := by omega
              subst hl0; subst h2
              obtain ⟨m', h0, h1, h2', h3, h4, h5, hrun⟩ := hb true hbd hc (Nat.le_refl 0) (Nat.le_refl 0)
              refine ⟨.slice a0 0 0, ⟨L, hL, .inl ⟨by omega, a0, rfl⟩⟩, fun w => ?_⟩
              have e1 : m' = l.toNat := by omega
              simp [Instr.sliceAt, Instr.slice, run_underlying hu, hrun, run_size hwd, e1]
              omega
            · obtain ⟨m', h0, h1, h2', h3, h4, h5, hrun⟩ := hb true hbd hc hncp hle
              by_cases e1 : m' = l.toNat
              · refine ⟨.slice (some ⟨L.b, L.base, none⟩) 0 0, ⟨L, hL, .inl ⟨by omega, _, rfl⟩⟩, fun w => ?_⟩
                simp [Instr.sliceAt, Instr.slice, run_underlying hu, hrun, run_size hwd, e1]
                omega
              · have hle2 : (l.toNat + (m' - l.toNat)) * wd ≤ cap * wd := Nat.mul_le_mul_right _ (by omega)
                refine ⟨.slice (some ⟨L.b, L.base + l.toNat * wd, none⟩) (hh.toNat - l.toNat) (m' - l.toNat), ⟨L, hL, .inr ⟨l.toNat, m' - l.toNat, by omega, by omega, by omega, rfl⟩⟩, fun w => ?_⟩
                simp [Instr.sliceAt, Instr.slice, run_underlying hu, hrun, run_size hwd, e1, add_zero_off]
          · simp [Tr.val] at h
        · simp [Tr.val] at h
      · rename_i id wd' r len
        split at h
        · rename_i l hh m hbd
          split at h
          · rename_i hw
            subst hw
            obtain ⟨hc, h⟩ := val_chk h
            obtain rfl := val_ok h
            rcases ha with ⟨h2, a0, rfl⟩ | ⟨L, cap, hL, hle, hnn, rfl⟩
            · subst h2
              obtain ⟨m', h0, h1, h2', h3, h4, h5, hrun⟩ := hb true hbd hc (Nat.le_refl 0) (Nat.le_refl 0)
              refine ⟨.slice a0 0 0, .inl ⟨by omega, a0, rfl⟩, fun w => ?_⟩
              have e1 : m' = l.toNat := by omega
              simp [Instr.sliceAt, Instr.slice, run_underlying hu, hrun, run_size hwd, e1]
              omega
            · obtain ⟨m', h0, h1, h2', h3, h4, h5, hrun⟩ := hb true hbd hc (Nat.le_refl _) hle
              by_cases e1 : m' = l.toNat
              · refine ⟨.slice (some ⟨L.b, L.base + r * wd, none⟩) 0 0, .inl ⟨by omega, _, rfl⟩, fun w => ?_⟩
                simp [Instr.sliceAt, Instr.slice, run_underlying hu, hrun, run_size hwd, e1]
                omega
              · refine ⟨.slice (some ⟨L.b, L.base + (r + l.toNat) * wd, none⟩) (hh.toNat - l.toNat) (m' - l.toNat), .inr ⟨L, m' - l.toNat, hL, by omega, by omega, rfl⟩, fun w => ?_⟩
                simp [Instr.sliceAt, Instr.slice, run_underlying hu, hrun, run_size hwd, e1, add_zero_off, Nat.add_assoc, Nat.add_mul]
          · simp [Tr.val] at h
        · simp [Tr.val] at h
      · rename_i id F wd' r len
        split at h
        · rename_i l hh m hbd
          split at h
          · rename_i hw
            subst hw
            obtain ⟨hc, h⟩ := val_chk h
            obtain rfl := val_ok h
            obtain ⟨v, h1, h2⟩ := mems_slice (lo' := lo.map e) (hi' := hi.map e) (mx' := mx.map e) (l := l.toNat) (hh := hh.toNat) hu hwd (mems_of_mem ha) (fun cap hle => let ⟨m', a, b, c, d, _, _, g⟩ := hb true hbd hc (Nat.le_refl _) hle; ⟨m', a, b, c, d, g⟩)
            rw [Nat.zero_add] at h1
            exact ⟨v, h1, h2⟩
          · simp [Tr.val] at h
        · simp [Tr.val] at h
      · rename_i id F wd' r lo' len
        split at h
        · rename_i l hh m hbd
          split at h
          · rename_i hw
            subst hw
            obtain ⟨hc, h⟩ := val_chk h
            obtain rfl := val_ok h
            exact mems_slice (lo' := lo.map e) (hi' := hi.map e) (mx' := mx.map e) (l := l.toNat) (hh := hh.toNat) hu hwd ha (fun cap hle => let ⟨m', a, b, c, d, _, _, g⟩ := hb true hbd hc (Nat.le_refl _) hle; ⟨m', a, b, c, d, g⟩)
          · simp [Tr.val] at h
        · simp [Tr.val] at h
      · simp [Tr.val] at h
    · simp [Tr.val] at h
  · simp [Tr.val] at h

/-! ### the rest -/

theorem run_arrPtrT {t : TypeId} {x tv : TV} {a : Value} (h : arrPtrT P t x = some tv) (ha : relT φ x a) : ∃ v, relT φ tv v ∧ ∀ w, (Instr.arrayAt t a).run P w = .ok v w := by
  unfold arrPtrT at h
  split at h
  · rename_i n e hu
    split at h
    · rename_i id wd o len
      split at h
      · rename_i m hle
        cases h
        have hle : m + 1 ≤ len := Nat.le_of_ble_eq_true hle
        rcases ha with ⟨h0, _⟩ | ⟨L, cap, hL, h1, rfl⟩
        · omega
        · refine ⟨_, ⟨L, hL, rfl⟩, fun w => ?_⟩
          have : ¬ len < m + 1 := by omega
          simp [Instr.arrayAt, run_underlying hu, this]
      · cases h
    · cases h
  · cases h

theorem run_extractT {x tv : TV} {i : Nat} {a : Value} (h : extractT x i = some tv) (ha : relT φ x a) : ∃ v, relT φ tv v ∧ ∀ w, (Instr.extract a i).run P w = .ok v w := by
  unfold extractT at h
  split at h
  · rename_i l
    obtain ⟨p, hp, rfl⟩ := Option.map_eq_some_iff.1 h
    obtain ⟨vs, rfl, hvs⟩ := ha
    obtain ⟨v, hv, hr⟩ := hvs.get hp
    have hv' : vs[i]? = some v := by simpa using hv
    exact ⟨v, hr, fun w => by simp [Instr.extract, hv']⟩
  · cases h

theorem run_convT {s d : TypeId} {x tv : TV} {a : Value} (h : convT P s d x = some tv) (ha : relT φ x a) : ∃ v, relT φ tv v ∧ ∀ w, (convert s d a).run P w = .ok v w := by
  unfold convT at h
  split at h
  · rename_i ds k k' n hs hd
    obtain rfl := Option.some.inj h
    simp only [relT, relA, relS] at ha
    subst ha
    exact ⟨_, rfl, fun w => by simp [convert, run_underlying hs, run_underlying hd, Conv.intToInt]⟩
  · rename_i ds l hs hd
    obtain rfl := Option.some.inj h
    obtain ⟨s, rfl, hs'⟩ := ha
    exact ⟨_, ⟨s, rfl, hs'⟩, fun w => by simp [convert, run_underlying hs, run_underlying hd]⟩
  · cases h

theorem run_lenT {t ty : TypeId} {x tv : TV} {a : Value} (h : lenT P t x = some tv) (ha : relT φ x a) : ∃ v, relT φ tv v ∧ ∀ w, (Builtin.len_ #[t] ty #[a]).run P w = .ok v w := by
  unfold lenT at h
  split at h
  · rename_i e hu
    split at h
    · obtain rfl := Option.some.inj h
      rcases ha with ⟨h2, a0, rfl⟩ | ⟨L, cap, hL, hle, rfl⟩
      · subst h2
        exact ⟨_, rfl, fun w => by simp [Builtin.len_, run_underlying hu, goInt]⟩
      · exact ⟨_, rfl, fun w => by simp [Builtin.len_, run_underlying hu, goInt]⟩
    · obtain rfl := Option.some.inj h
      rcases ha with ⟨h2, _, a0, rfl⟩ | ⟨L, cap, hL, hle, hcp, hnn, hsz, rfl⟩
      · subst h2
        exact ⟨_, rfl, fun w => by simp [Builtin.len_, run_underlying hu, goInt]⟩
      · exact ⟨_, rfl, fun w => by simp [Builtin.len_, run_underlying hu, goInt]⟩
    · obtain rfl := Option.some.inj h
      rcases ha with ⟨h2, a0, rfl⟩ | ⟨L, hL, hnn, hle, rfl⟩
      · subst h2
        exact ⟨_, rfl, fun w => by simp [Builtin.len_, run_underlying hu, goInt]⟩
      · exact ⟨_, rfl, fun w => by simp [Builtin.len_, run_underlying hu, goInt]⟩
    · obtain rfl := Option.some.inj h
      rcases ha with ⟨h2, a0, rfl⟩ | ⟨L, cap, hL, hle, hnn, rfl⟩
      · subst h2
        exact ⟨_, rfl, fun w => by simp [Builtin.len_, run_underlying hu, goInt]⟩
      · exact ⟨_, rfl, fun w => by simp [Builtin.len_, run_underlying hu, goInt]⟩
    · obtain rfl := Option.some.inj h
      obtain ⟨L, hL, hn', ha⟩ := ha
      rcases ha with ⟨h2, a0, rfl⟩ | ⟨cap, hle, hsz, rfl⟩
      · subst h2
        exact ⟨_, rfl, fun w => by simp [Builtin.len_, run_underlying hu, goInt]⟩
      · exact ⟨_, rfl, fun w => by simp [Builtin.len_, run_underlying hu, goInt]⟩
    · obtain rfl := Option.some.inj h
      obtain ⟨L, hL, hn', hcp, ha⟩ := ha
      rcases ha with ⟨h2, a0, rfl⟩ | ⟨cap, hle, hsz, rfl⟩
      · rename_i n _
        obtain rfl : n = 0 := by omega
        exact ⟨_, rfl, fun w => by simp [Builtin.len_, run_underlying hu, goInt]⟩
      · exact ⟨_, rfl, fun w => by simp [Builtin.len_, run_underlying hu, goInt]⟩
    · obtain rfl := Option.some.inj h
      rcases ha with ⟨h2, a0, rfl⟩ | ⟨L, cap, hL, hle, hnn, rfl⟩
      · subst h2
        exact ⟨_, rfl, fun w => by simp [Builtin.len_, run_underlying hu, goInt]⟩
      · exact ⟨_, rfl, fun w => by simp [Builtin.len_, run_underlying hu, goInt]⟩
    · obtain rfl := Option.some.inj h
      obtain ⟨L, LF, hL, hF, hi, hm, ⟨h2, a0, rfl⟩ | ⟨b, o, cap, rfl, hcap, hle⟩⟩ := ha
      · subst h2
        exact ⟨_, rfl, fun w => by simp [Builtin.len_, run_underlying hu, goInt]⟩
      · exact ⟨_, rfl, fun w => by simp [Builtin.len_, run_underlying hu, goInt]⟩
    · obtain rfl := Option.some.inj h
      rcases ha with ⟨h2, a0, rfl⟩ | ⟨L, LF, b, o, l0, c0, cap, hL, hF, hi, hm, hll, hle, rfl⟩
      · subst h2
        exact ⟨_, rfl, fun w => by simp [Builtin.len_, run_underlying hu, goInt]⟩
      · exact ⟨_, rfl, fun w => by simp [Builtin.len_, run_underlying hu, goInt]⟩
    · obtain rfl := Option.some.inj h
      simp only [relT, relA, relS] at ha
      subst ha
      exact ⟨_, rfl, fun w => by simp [Builtin.len_, run_underlying hu, goInt]⟩
    · obtain rfl := Option.some.inj h
      simp only [relT, relA, relS] at ha
      obtain ⟨a0, rfl⟩ := ha
      exact ⟨_, rfl, fun w => by simp [Builtin.len_, run_underlying hu, goInt]⟩
    · cases h
  · rename_i n e hu
    obtain rfl := Option.some.inj h
    exact ⟨_, rfl, fun w => by simp [Builtin.len_, run_underlying hu, goInt]⟩
  · cases h

theorem run_minT : ∀ {xs : List TV} {vs : List Value} {x tv : TV} {a : Value}, minT false x xs = some tv → relT φ x a → All2 (relT φ) xs vs → ∃ v, relT φ tv v ∧ ∀ w, (vs.foldlM Builtin.min2 a).run P w = .ok v w
  | [], [], x, tv, a, h, ha, _ => by
    have : x = tv := by unfold minT at h; simpa using h
    subst this
    exact ⟨a, ha, fun w => by simp⟩
  | y :: xs, b :: vs, x, tv, a, h, ha, hb => by
    obtain ⟨hb, hr⟩ := hb
    unfold minT at h
    split at h
    · rename_i heq; cases heq
    · rename_i k m k' n rest heq
      cases heq
      simp only [relT, relA, relS] at ha hb
      subst ha; subst hb
      obtain ⟨v, hv, hrun⟩ := run_minT (a := .int k (if n < m then n else m)) h rfl hr
      exact ⟨v, hv, fun w => by simp only [List.foldlM_cons, Builtin.min2, Sem.run_bind, Sem.run_pure, Result.andThen_ok]; exact hrun w⟩
    · cases h
  | [], _ :: _, _, _, _, _, _, hb => hb.elim
  | _ :: _, [], _, _, _, _, _, hb => hb.elim

theorem run_maxT : ∀ {xs : List TV} {vs : List Value} {x tv : TV} {a : Value}, minT true x xs = some tv → relT φ x a → All2 (relT φ) xs vs → ∃ v, relT φ tv v ∧ ∀ w, (vs.foldlM Builtin.max2 a).run P w = .ok v w
  | [], [], x, tv, a, h, ha, _ => by
    have : x = tv := by unfold minT at h; simpa using h
    subst this
    exact ⟨a, ha, fun w => by simp⟩
  | y :: xs, b :: vs, x, tv, a, h, ha, hb => by
    obtain ⟨hb, hr⟩ := hb
    unfold minT at h
    split at h
    · rename_i heq; cases heq
    · rename_i k m k' n rest heq
      cases heq
      simp only [relT, relA, relS] at ha hb
      subst ha; subst hb
      obtain ⟨v, hv, hrun⟩ := run_maxT (a := .int k (if n > m then n else m)) h rfl hr
      exact ⟨v, hv, fun w => by simp only [List.foldlM_cons, Builtin.max2, Sem.run_bind, Sem.run_pure, Result.andThen_ok]; exact hrun w⟩
    · cases h
  | [], _ :: _, _, _, _, _, _, hb => hb.elim
  | _ :: _, [], _, _, _, _, _, hb => hb.elim

theorem capsT_rel {ρ : Operand → TV} {e : Operand → Value} (hρ : ∀ x, relT φ (ρ x) (e x)) : ∀ {xs : List Operand} {l : List (Nat × Nat)}, capsT ρ xs = some l →
    All2 (fun (c : Nat × Nat) u => ∃ L, φ[c.1]? = some L ∧ u = .pointer (some ⟨L.b, L.base + c.2, none⟩)) l (xs.map e)
  | [], l, h => by simp [capsT] at h; subst h; trivial
  | x :: xs, l, h => by
    simp only [capsT] at h
    have hx := hρ x
    split at h
    · rename_i id o heq
      rw [heq] at hx
      split at h
      · rename_i r hr
        obtain rfl := Option.some.inj h
        exact ⟨hx, capsT_rel hρ hr⟩
      · cases h
    · cases h

end
end Go.AM
end
