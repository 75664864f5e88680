/-
  The abstract machine, part 2: one operation. Definitions.
-/
import Derived.Test.YtepdekambalmhaaAm1
import Derived.Laws.CopyRow
import Derived.Laws.Tables
import Derived.Laws.StructEq
import Derived.Laws.Slices
import Derived.Laws.Append
namespace Go.AM

/-- Ways: 'br' parts on what is not known ('g': where), 'no' is outside of what is followed. -/
inductive Tr (α : Type) where
  | ok (a : α)
  | br (g : Nat) (c : Bool) (t e : Tr α)
  | no

def Tr.bind {α β : Type} : Tr α → (α → Tr β) → Tr β
  | .ok a, f => f a
  | .br g c t e, f => .br g c (t.bind f) (e.bind f)
  | .no, _ => .no

def Tr.val {α : Type} : Tr α → Option α
  | .ok a => some a
  | .br _ c t e => match c with
    | true => t.val
    | false => e.val
  | .no => none

def Tr.sat {α : Type} (t : Tr α) (Q : α → Prop) : Prop := ∃ a, t.val = some a ∧ Q a

theorem Tr.val_bind {α β : Type} (t : Tr α) (f : α → Tr β) : (t.bind f).val = t.val.bind fun a => (f a).val := by
  induction t with
  | ok a => rfl
  | br g c t e iht ihe => cases c <;> simp only [Tr.bind, Tr.val, iht, ihe]
  | no => rfl

theorem Tr.sat_ok {α : Type} {a : α} {Q : α → Prop} : (Tr.ok a).sat Q ↔ Q a := by simp [Tr.sat, Tr.val]
theorem Tr.sat_no {α : Type} {Q : α → Prop} : (Tr.no : Tr α).sat Q ↔ False := by simp [Tr.sat, Tr.val]
theorem Tr.sat_br {α : Type} {g : Nat} {c : Bool} {t e : Tr α} {Q : α → Prop} : (Tr.br g c t e).sat Q ↔ (c = true → t.sat Q) ∧ (c = false → e.sat Q) := by
  cases c <;> simp [Tr.sat, Tr.val]
theorem Tr.sat_bind {α β : Type} {t : Tr α} {f : α → Tr β} {Q : β → Prop} : (t.bind f).sat Q ↔ t.sat fun a => (f a).sat Q := by
  unfold Tr.sat
  rw [Tr.val_bind]
  cases t.val with
  | none => simp
  | some a => simp
theorem Tr.sat_mono {α : Type} {t : Tr α} {Q Q' : α → Prop} (h : ∀ a, Q a → Q' a) : t.sat Q → t.sat Q' := fun ⟨a, h1, h2⟩ => ⟨a, h1, h _ h2⟩

/-- A test that must hold; where 'y' names its place, it is not decided by reckoning alone. -/
def chk {α : Type} (y : Option Nat) (c : Bool) (t : Tr α) : Tr α :=
  match y with
  | some g => .br g c t .no
  | none => match c with
    | true => t
    | false => .no

theorem val_chk {α : Type} {y : Option Nat} {c : Bool} {t : Tr α} {a : α} (h : (chk y c t).val = some a) : c = true ∧ t.val = some a := by
  cases y <;> cases c <;> simp [chk, Tr.val] at h ⊢ <;> exact h

/-- A list, reckoned to its end first. -/
def forceL {α β : Type} : List α → (List α → β) → β
  | [], k => k []
  | x :: xs, k => forceL xs fun ys => k (x :: ys)

theorem forceL_eq {α β : Type} : ∀ (l : List α) (k : List α → β), forceL l k = k l
  | [], _ => rfl
  | x :: xs, k => by rw [forceL, forceL_eq xs]

def opt {α : Type} : Option α → Tr α
  | some a => .ok a
  | none => .no

theorem val_opt {α : Type} (o : Option α) : (opt o).val = o := by cases o <;> rfl

/-! ### Values that stand in the program's text -/

def absS : Value → Option AS
  | .bool b => some (.b b)
  | .int k n => some (.n k n)
  | .pointer none => some .pnil
  | .slice none 0 0 => some .slnil
  | .string s => some (.str s.data.toList)
  | .nilFunc => some .fnil
  | _ => none

def absL : List Value → Option (List AS)
  | [] => some []
  | v :: vs => match absS v with
    | some a => match absL vs with
      | some as => some (a :: as)
      | none => none
    | none => none

def absV : Value → Option AV
  | .agg cs => (absL cs.toList).map .agg
  | v => (absS v).map .s

theorem absS_rel {φ : Phi} {v : Value} {a : AS} (h : absS v = some a) : relS φ a v := by
  unfold absS at h
  split at h <;> simp at h <;> subst h <;> simp [relS]

theorem absL_rel {φ : Phi} : ∀ {vs : List Value} {as : List AS}, absL vs = some as → All2 (relS φ) as vs
  | [], as, h => by simp [absL] at h; subst h; trivial
  | v :: vs, as, h => by
    simp only [absL] at h
    cases ha : absS v with
    | none => simp [ha] at h
    | some a =>
      cases hl : absL vs with
      | none => simp [ha, hl] at h
      | some l => simp [ha, hl] at h; subst h; exact ⟨absS_rel ha, absL_rel hl⟩

theorem absV_rel {φ : Phi} {v : Value} {a : AV} (h : absV v = some a) : relA φ a v := by
  unfold absV at h
  split at h
  · rename_i cs
    cases hl : absL cs.toList with
    | none => simp [hl] at h
    | some l => simp [hl] at h; subst h; exact ⟨cs, rfl, absL_rel hl⟩
  · obtain ⟨s, hs, rfl⟩ := Option.map_eq_some_iff.1 h
    exact absS_rel hs

/-- What an operand is. ('k': a truth value that is known.) -/
def unk : TV → TV
  | .k b => .v (.s (.b b))
  | x => x

def evalT (tm : List TV) : Operand → TV
  | .tmp t => unk (tm.getD t (.tup []))
  | .const v => match absV v with
    | some a => .v a
    | none => .any
  | .global _ => .any
  | .func f => .v (.s (.fn f []))

/-! ### Types -/

def aggT (P : Program) (t : TypeId) : Option Bool :=
  match P.underlying t with
  | some (.struct _) | some (.array _ _) => some true
  | some _ => some false
  | none => none

def sizeT (P : Program) (t : TypeId) : Option Nat := (P.info? t).map (·.size)

def zeroT (P : Program) (t : TypeId) : Option (List AS) :=
  match P.info? t with
  | some i => match i.zero with
    | some z => (absV z).map AV.cells
    | none => none
  | none => none

def kindOf : AS → Option SK
  | .b false => some .b
  | .n k x => if x = 0 then some (.n k) else none
  | _ => none

def asInt : SK → AS → Option Int
  | .n k, .n k' x => if k = k' then some x else none
  | .b, .b y => some (cond y 1 0)
  | _, _ => none

/-! ### one of several equal parts, that is not told -/

def selY : Option Nat → Bool
  | some g => Nat.ble 200000 g
  | none => false

def skOf : AS → Option SK
  | .b _ => some .b
  | .n k _ => some (.n k)
  | _ => none

/-- The numbers in every 'n'-th cell from 'o' on. -/
def colI (sk : SK) (l : List AS) (n : Nat) : (len o : Nat) → Option (List Int)
  | 0, _ => some []
  | m + 1, o => match l[o]? with
    | some a => match asInt sk a with
      | some x => match colI sk l n m (o + n) with
        | some xs => some (x :: xs)
        | none => none
      | none => none
    | none => none

def selS (l : List AS) (o n len j : Nat) : Option AS :=
  match l[o]? with
  | some a => match skOf a with
    | some sk => match colI sk l n len o with
      | some xs => some (mkS sk (xs.getD j 0))
      | none => none
    | none => none
  | none => none

def selSs (l : List AS) (n len j : Nat) : (m o : Nat) → Option (List AS)
  | 0, _ => some []
  | m + 1, o => match selS l o n len j with
    | some a => match selSs l n len j m (o + 1) with
      | some r => some (a :: r)
      | none => none
    | none => none

def putCol (sk : SK) (n j : Nat) (x : Int) : (xs : List Int) → (j' o : Nat) → List AS → List AS
  | [], _, _, l => l
  | y :: ys, j', o, l => putCol sk n j x ys (j' + 1) (o + n) (l.set o (mkS sk (bif Nat.beq j j' then x else y)))

def setX (l : List AS) (o n len j : Nat) (a : AS) : Option (List AS) :=
  match l[o]? with
  | some b => match skOf b with
    | some sk => match asInt sk a with
      | some x => match colI sk l n len o with
        | some xs => some (putCol sk n j x xs 0 o l)
        | none => none
      | none => none
    | none => none
  | none => none

def setXs (n len j : Nat) : List AS → (o : Nat) → List AS → Option (List AS)
  | [], _, l => some l
  | a :: as, o, l => match setX l o n len j a with
    | some l' => setXs n len j as (o + 1) l'
    | none => none

/-- The kind of every 'n'-th cell. -/
def allK (sk : SK) (ks : List SK) (n : Nat) : (len o : Nat) → Bool
  | 0, _ => true
  | m + 1, o => match ks[o]? with
    | some k => match decide (k = sk) with
      | true => allK sk ks n m (o + n)
      | false => false
    | none => false

def kindX (ks : List SK) (n len o : Nat) : Option SK :=
  match ks[o]? with
  | some sk => match allK sk ks n len o with
    | true => some sk
    | false => none
  | none => none

def rowCellsX (ks : List SK) (g : Nat → Int) (n len j : Nat) : (m o : Nat) → Option (List AS)
  | 0, _ => some []
  | m + 1, o => match kindX ks n len o with
    | some sk => match rowCellsX ks g n len j m (o + 1) with
      | some r => some (mkS sk (g (o + j * n)) :: r)
      | none => none
    | none => none

def kindsL : List AS → Option (List SK)
  | [] => some []
  | a :: as => match kindOf a with
    | some k => match kindsL as with
      | some ks => some (k :: ks)
      | none => none
    | none => none

def kindsT (P : Program) (t : TypeId) : Option (List SK) := (zeroT P t).bind kindsL

/-- A part of an aggregate. -/
def partA (P : Program) (t : TypeId) (cs : List AS) (off : Nat) : Option AV :=
  match aggT P t with
  | some true => match sizeT P t with
    | some n => some (.agg ((cs.drop off).take n))
    | none => none
  | some false => (cs[off]?).map .s
  | none => none

/-! ### Equality -/

def eqFs (eq : TypeId → AV → AV → Option Bool) (pt : TypeId → List AS → Nat → Option AV) (xs ys : List AS) : List Field → Option Bool
  | [] => some true
  | f :: fs =>
    if f.name = "_" then eqFs eq pt xs ys fs
    else match pt f.type xs f.offset, pt f.type ys f.offset with
      | some a, some b => match eq f.type a b, eqFs eq pt xs ys fs with
        | some p, some q => some (p && q)
        | _, _ => none
      | _, _ => none

def eqIs (eq : AV → AV → Option Bool) (pt : List AS → Nat → Option AV) (xs ys : List AS) (n : Nat) : (count i : Nat) → Option Bool
  | 0, _ => some true
  | c + 1, i => match pt xs (i * n), pt ys (i * n) with
    | some a, some b => match eq a b, eqIs eq pt xs ys n c (i + 1) with
      | some p, some q => some (p && q)
      | _, _ => none
    | _, _ => none

def eqA (P : Program) : Nat → TypeId → AV → AV → Option Bool
  | 0, _, _, _ => none
  | d + 1, t, x, y =>
    match P.underlying t, x, y with
    | some .bool, .s (.b a), .s (.b b) => some (a == b)
    | some (.int _), .s (.n k a), .s (.n k' b) => if k = k' then some (a == b) else none
    | some .string, .s (.str a), .s (.str b) => some (a == b)
    | some (.pointer _), .s .pnil, .s .pnil => some true
    | some (.pointer _), .s (.p _ _), .s .pnil => some false
    | some (.pointer _), .s .pnil, .s (.p _ _) => some false
    | some (.struct fs), .agg xs, .agg ys => if P.stoodInHeld t then none else eqFs (eqA P d) (partA P) xs ys fs.toList
    | some (.array len e), .agg xs, .agg ys => match sizeT P e with
      | some n => eqIs (eqA P d e) (partA P e) xs ys n len 0
      | none => none
    | _, _, _ => none

/-! ### Operations that do not look at the memory -/

def tvb (b : Bool) : TV := .v (.s (.b b))
def tvn (k : IntKind) (n : Int) : TV := .v (.s (.n k n))

/-- A number that is one of a few: told apart. -/
def splitI (g : Nat) (k : IntKind) : (n : Nat) → (lo x : Int) → Tr TV
  | 0, _, _ => .no
  | n + 1, lo, x => .br g (x == lo) (.ok (tvn k lo)) (splitI g k n (lo + 1) x)

/-- Where the place is marked so, a number is told apart. -/
def apartN (y : Option Nat) (k : IntKind) (n : Nat) (lo x : Int) : Tr TV :=
  match y with
  | some g => match Nat.ble 100000 g with
    | true => splitI g k n lo x
    | false => .ok (tvn k x)
  | none => .ok (tvn k x)

/-- Likewise, of what is told to be one of sixteen: 0 to 15. -/
def splitTV (y : Option Nat) (a : TV) : Tr TV :=
  match y with
  | some g => match Nat.ble 100000 g with
    | true => match a with
      | .v (.s (.n k x)) => splitI g k 16 0 x
      | _ => .no
    | false => .ok a
  | none => .ok a

def plainY : Option Nat → Option Nat
  | some g => match Nat.ble 100000 g with
    | true => none
    | false => some g
  | none => none

def intOp (y : Option Nat) (op : BinOp) (k : IntKind) (a b : Int) : Tr TV :=
  match op with
  | .add => .ok (tvn k (k.wrap (a + b)))
  | .sub => .ok (tvn k (k.wrap (a - b)))
  | .mul => .ok (tvn k (k.wrap (a * b)))
  | .quo => chk y (b != 0) (.ok (tvn k (k.wrap (a.tdiv b))))
  | .rem => chk (plainY y) (b != 0) (apartN y k (2 * b.natAbs - 1) (1 - (b.natAbs : Int)) (a.tmod b))
  | .and => .ok (tvn k (bits .and k a b))
  | .or => .ok (tvn k (bits .or k a b))
  | .xor => .ok (tvn k (bits .xor k a b))
  | .andNot => .ok (tvn k (bits .andNot k a b))
  | .eql => .ok (tvb (a == b))
  | .neq => .ok (tvb (a != b))
  | .lss => .ok (tvb (decide (a < b)))
  | .leq => .ok (tvb (decide (a ≤ b)))
  | .gtr => .ok (tvb (decide (a > b)))
  | .geq => .ok (tvb (decide (a ≥ b)))
  | _ => .no

def shiftN (k : IntKind) (b : Int) : Nat := min b.toNat k.bits

def eqAny (P : Program) (neg : Bool) (t : TypeId) (x y : AV) : Option TV :=
  match x, y with
  | .agg xs, .agg ys => if P.eqGuardType P.depth t then none else
    match eqA P 10000 t (.agg xs) (.agg ys) with
    | some r => some (tvb (cond neg (!r) r))
    | none => none
  | x, y => match eqA P 10000 t x y with
    | some r => some (tvb (cond neg (!r) r))
    | none => none

def binT (P : Program) (y : Option Nat) (op : BinOp) (t : TypeId) (u v : TV) : Tr TV :=
  match u, v with
  | .v (.s (.n k a)), .v (.s (.n k' b)) =>
    match op with
    | .shl => chk y (decide (0 ≤ b)) (.ok (tvn k (k.wrap (a * 2 ^ shiftN k b))))
    | .shr => chk y (decide (0 ≤ b)) (.ok (tvn k (a.fdiv (2 ^ shiftN k b))))
    | op => if k = k' then intOp y op k a b else .no
  | .v (.s (.str a)), .v (.s (.str b)) =>
    match op with
    | .eql => .ok (tvb (a == b))
    | .neq => .ok (tvb (!(a == b)))
    | _ => .no
  | .v x, .v z =>
    match op with
    | .eql => opt (eqAny P false t x z)
    | .neq => opt (eqAny P true t x z)
    | _ => .no
  | _, _ => .no

def unT (op : UnOp) (u : TV) : Tr TV :=
  match op, u with
  | .neg, .v (.s (.n k n)) => .ok (tvn k (k.wrap (0 - n)))
  | .xor, .v (.s (.n k n)) => .ok (tvn k (bits .xor k (if k.signed then -1 else k.max) n))
  | .not, .v (.s (.b b)) => .ok (tvb (!b))
  | _, _ => .no

def pickT (x : Bool) (u v : TV) : Tr TV :=
  match u, v with
  | .v (.s (.b p)), .v (.s (.b q)) => .ok (tvb (cond x p q))
  | .v (.s (.n k p)), .v (.s (.n k' q)) => if k = k' then .ok (tvn k (cond x p q)) else .no
  | u, v => match x with
    | true => .ok u
    | false => .ok v

/-- 'vs' laid into 'l' from 'o' on. -/
def setAll (l : List AS) (o : Nat) (vs : List AS) : List AS := l.take o ++ vs ++ l.drop (o + vs.length)

def fillA (place : Nat → Option (Nat × Nat)) (cells : List AS) : List (Nat × AV) → Option (List AS)
  | [] => some cells
  | (i, v) :: rest => match place i with
    | none => none
    | some (off, size) => if v.cells.length = size ∧ off + size ≤ cells.length then fillA place (setAll cells off v.cells) rest else none

def partsT (ρ : Operand → TV) : List (Nat × Operand) → Option (List (Nat × AV))
  | [] => some []
  | (i, x) :: rest => match ρ x with
    | .v a => match partsT ρ rest with
      | some r => some ((i, a) :: r)
      | none => none
    | _ => none

def placesT (P : Program) : List Field → Option (List (Nat × Nat))
  | [] => some []
  | f :: fs => match sizeT P f.type with
    | some n => match placesT P fs with
      | some r => some ((f.offset, n) :: r)
      | none => none
    | none => none

def buildT (P : Program) (t : TypeId) (parts : List (Nat × AV)) : Option TV :=
  match zeroT P t with
  | none => none
  | some zero => match P.underlying t with
    | some (.struct fs) => match placesT P fs.toList with
      | some ps => (fillA (ps[·]?) zero parts).map fun l => .v (.agg l)
      | none => none
    | some (.array _ e) => match sizeT P e with
      | some n => (fillA (fun i => some (i * n, n)) zero parts).map fun l => .v (.agg l)
      | none => none
    | _ => none

def fieldAddrT (P : Program) (s : TypeId) (x : TV) (f : Nat) : Option TV :=
  match P.underlying s with
  | some (.struct fs) => match fs.toList[f]? with
    | some fd => match sizeT P fd.type with
      | some 0 => none
      | some _ => match x with
        | .v (.s (.p id o)) => some (.v (.s (.p id (o + fd.offset))))
        | .v (.s (.pr id wd i c)) => some (.v (.s (.pr id wd i (c + fd.offset))))
        | .v (.s (.px id wd i o n len j c)) => some (.v (.s (.px id wd i o n len j (c + fd.offset))))
        | _ => none
      | none => none
    | none => none
  | _ => none

def fieldT (P : Program) (s : TypeId) (x : TV) (f : Nat) : Option TV :=
  match P.underlying s with
  | some (.struct fs) => match fs.toList[f]? with
    | some fd => match x with
      | .v (.agg l) => (partA P fd.type l fd.offset).map .v
      | _ => none
    | none => none
  | _ => none

def within (i : Int) (n : Nat) : Bool := decide (0 ≤ i) && decide (i < (n : Int))

def indexAddrT (P : Program) (y : Option Nat) (t : TypeId) (x ix : TV) : Tr TV :=
  match ix with
  | .v (.s (.n _ i)) =>
    match P.underlying t with
    | some (.array len e) => match sizeT P e with
      | some n => match x with
        | .v (.s (.p id o)) => chk y (within i len) (.ok (.v (.s (.p id (o + i.toNat * n)))))
        | .v (.s (.pr id wd r c)) => chk y (within i len) (.ok (.v (.s (.pr id wd r (c + i.toNat * n)))))
        | _ => .no
      | none => .no
    | some (.slice e) => match sizeT P e with
      | some n => match x with
        | .v (.s (.sl id wd o len)) => if wd = n then chk y (within i len) (.ok (.v (.s (.p id (o + i.toNat * n))))) else .no
        | .v (.s (.slr id wd r len _)) => if wd = n then chk y (within i len) (.ok (.v (.s (.pr id wd (r + i.toNat) 0)))) else .no
        | .v (.s (.slc id wd r len)) => if wd = n then chk y (within i len) (.ok (.v (.s (.pr id wd (r + i.toNat) 0)))) else .no
        | .v (.s (.slq id wd r len)) => if wd = n then chk y (within i len) (.ok (.v (.s (.pr id wd (r + i.toNat) 0)))) else .no
        | .v (.s (.slw id wd len)) => if wd = n then chk y (within i len) (.ok (.v (.s (.pr id wd i.toNat 0)))) else .no
        | _ => .no
      | none => .no
    | _ => .no
  | _ => .no

def indexT (P : Program) (y : Option Nat) (t : TypeId) (x ix : TV) : Tr TV :=
  match ix with
  | .v (.s (.n _ i)) =>
    match P.underlying t with
    | some (.array len e) => match sizeT P e with
      | some n => match x with
        | .v (.agg l) => chk y (within i len) (opt ((partA P e l (i.toNat * n)).map .v))
        | _ => .no
      | none => .no
    | _ => .no
  | _ => .no

/-- The address of a part that is not told. -/
def indexAddrX (P : Program) (y : Option Nat) (t : TypeId) (x ix : TV) : Tr TV :=
  match ix with
  | .v (.s (.n _ i)) =>
    match P.underlying t with
    | some (.array len e) => match sizeT P e with
      | some n => match x with
        | .v (.s (.p id o)) => if n = 0 then .no else chk y (within i len) (.ok (.v (.s (.px id 0 0 o n len i.toNat 0))))
        | .v (.s (.pr id wd r c)) => if n = 0 ∨ wd = 0 then .no else chk y (within i len) (.ok (.v (.s (.px id wd r c n len i.toNat 0))))
        | _ => .no
      | none => .no
    | some (.slice e) => match sizeT P e with
      | some n => match x with
        | .v (.s (.sl id wd o len)) => if wd = n ∧ n ≠ 0 then chk y (within i len) (.ok (.v (.s (.px id 0 0 o n len i.toNat 0)))) else .no
        | _ => .no
      | none => .no
    | _ => .no
  | _ => .no

def indexAddrS (P : Program) (y : Option Nat) (t : TypeId) (x ix : TV) : Tr TV :=
  match selY y with
  | true => indexAddrX P y t x ix
  | false => indexAddrT P y t x ix

def partX (P : Program) (e : TypeId) (l : List AS) (n len j : Nat) : Option AV :=
  match aggT P e with
  | some true => (selSs l n len j n 0).map .agg
  | some false => (selS l 0 n len j).map .s
  | none => none

def indexX (P : Program) (y : Option Nat) (t : TypeId) (x ix : TV) : Tr TV :=
  match ix with
  | .v (.s (.n _ i)) =>
    match P.underlying t with
    | some (.array len e) => match sizeT P e with
      | some n => match x with
        | .v (.agg l) => chk y (within i len) (opt ((partX P e l n len i.toNat).map .v))
        | _ => .no
      | none => .no
    | _ => .no
  | _ => .no

def indexS (P : Program) (y : Option Nat) (t : TypeId) (x ix : TV) : Tr TV :=
  match selY y with
  | true => indexX P y t x ix
  | false => indexT P y t x ix

def intT : TV → Option Int
  | .v (.s (.n _ i)) => some i
  | _ => none

/-- The bounds of a slice expression over what has 'len' elements, of which 'cp' may be reached: from, to, the most. -/
def boundsT (lo hi mx : Option TV) (len cp : Nat) : Option (Int × Int × Int) :=
  match (match mx with | some v => intT v | none => some (cp : Int)) with
  | none => none
  | some m => match (match hi with | some v => intT v | none => (match mx with | none => some (len : Int) | some _ => none)) with
    | none => none
    | some h => match (match lo with | some v => intT v | none => some 0) with
      | none => none
      | some l => some (l, h, m)

def boundsOk (hi mx : Bool) (len cp : Nat) (l h m : Int) : Bool :=
  match mx, hi with
  | true, _ => decide (0 ≤ l) && decide (l ≤ h) && (m == h) && decide (m ≤ (cp : Int))
  | false, true => decide (0 ≤ l) && decide (l ≤ h) && decide (h ≤ (cp : Int))
  | false, false => decide (0 ≤ l) && decide (l ≤ (len : Int))

def sliceT (P : Program) (y : Option Nat) (t : TypeId) (x : TV) (lo hi mx : Option TV) : Tr TV :=
  match P.underlying t with
  | some (.array n e) => match sizeT P e with
    | some wd => match x, boundsT lo hi mx n n with
      | .v (.s (.p id o)), some (l, h, m) => chk y (boundsOk hi.isSome mx.isSome n n l h m) (.ok (.v (.s (.sl id wd (o + l.toNat * wd) (h.toNat - l.toNat)))))
      | _, _ => .no
    | none => .no
  | some (.slice e) => match sizeT P e with
    | some wd => match x with
      | .v (.s (.sl id wd' o len)) => match boundsT lo hi mx len len with
        | some (l, h, m) => if wd = wd' then chk y (boundsOk hi.isSome mx.isSome len len l h m) (.ok (.v (.s (.sl id wd (o + l.toNat * wd) (h.toNat - l.toNat))))) else .no
        | none => .no
      | .v (.s (.slr id wd' r len cp)) => match boundsT lo hi mx len cp with
        | some (l, h, m) => if wd = wd' then chk y (boundsOk hi.isSome mx.isSome len cp l h m) (.ok (.v (.s (match mx with
            | none => .slr id wd (r + l.toNat) (h.toNat - l.toNat) (cp - l.toNat)
            | some _ => .slc id wd (r + l.toNat) (h.toNat - l.toNat))))) else .no
        | none => .no
      | .v (.s (.slw id wd' len)) => match boundsT lo hi mx len len with
        | some (l, h, m) => if wd = wd' then chk y (boundsOk hi.isSome mx.isSome len len l h m) (.ok (.v (.s (match mx with
            | none => .slr id wd (0 + l.toNat) (h.toNat - l.toNat) (len - l.toNat)
            | some _ => .slc id wd (0 + l.toNat) (h.toNat - l.toNat))))) else .no
        | none => .no
      | .v (.s (.slc id wd' r len)) => match boundsT lo hi mx len len with
        | some (l, h, m) => if wd = wd' then chk y (boundsOk hi.isSome mx.isSome len len l h m) (.ok (.v (.s (match mx with
            | none => .slr id wd (r + l.toNat) (h.toNat - l.toNat) (len - l.toNat)
            | some _ => .slc id wd (r + l.toNat) (h.toNat - l.toNat))))) else .no
        | none => .no
      | .v (.s (.slk id wd' len cp)) => match boundsT lo hi mx len cp, mx with
        | some (l, h, m), none => if wd = wd' then chk y (boundsOk hi.isSome mx.isSome len cp l h m && decide ((len : Int) ≤ l)) (.ok (.v (.s (.sld id wd (h.toNat - l.toNat))))) else .no
        | _, _ => .no
      | .v (.s (.slq id wd' r len)) => match boundsT lo hi mx len len with
        | some (l, h, m) => if wd = wd' then chk y (boundsOk hi.isSome mx.isSome len len l h m) (.ok (.v (.s (.slq id wd (r + l.toNat) (h.toNat - l.toNat))))) else .no
        | none => .no
      | _ => .no
    | none => .no
  | _ => .no

/-- A slice of cells as an array's address. -/
def arrPtrT (P : Program) (arr : TypeId) (x : TV) : Option TV :=
  match P.underlying arr with
  | some (.array n _) => match x with
    | .v (.s (.sl id _ o len)) => match Nat.ble n len, n with
      | true, _ + 1 => some (.v (.s (.p id o)))
      | _, _ => none
    | _ => none
  | _ => none

def extractT (x : TV) (i : Nat) : Option TV :=
  match x with
  | .tup l => (l[i]?).map .v
  | _ => none

def capsT (ρ : Operand → TV) : List Operand → Option (List (Nat × Nat))
  | [] => some []
  | x :: xs => match ρ x with
    | .v (.s (.p id o)) => match capsT ρ xs with
      | some r => some ((id, o) :: r)
      | none => none
    | _ => none

def lenT (P : Program) (t : TypeId) (x : TV) : Option TV :=
  match P.underlying t with
  | some (.slice _) => match x with
    | .v (.s (.sl _ _ _ len)) => some (tvn .i64 len)
    | .v (.s (.slr _ _ _ len _)) => some (tvn .i64 len)
    | .v (.s (.slc _ _ _ len)) => some (tvn .i64 len)
    | .v (.s (.slq _ _ _ len)) => some (tvn .i64 len)
    | .v (.s (.slw _ _ len)) => some (tvn .i64 len)
    | .v (.s (.slk _ _ len _)) => some (tvn .i64 len)
    | .v (.s .slnil) => some (tvn .i64 0)
    | _ => none
  | some (.array n _) => some (tvn .i64 n)
  | _ => none

def minT (big : Bool) : TV → List TV → Option TV
  | x, [] => some x
  | .v (.s (.n k a)), .v (.s (.n _ b)) :: rest =>
    match big with
    | true => minT big (tvn k (if b > a then b else a)) rest
    | false => minT big (tvn k (if b < a then b else a)) rest
  | _, _ => none

def convT (P : Program) (src dst : TypeId) (x : TV) : Option TV :=
  match P.underlying src, P.underlying dst, x with
  | some _, some (.int k), .v (.s (.n _ n)) => some (tvn k (k.wrap n))
  | some _, some .string, .v (.s (.str l)) => some (.v (.s (.str l)))
  | _, _, _ => none

/-! ### What a call comes to -/

inductive Spec where
  | pure (F : List TV → Tr TV)
  | read (F : List TV → AH → Tr TV)
  | eff (F : List TV → AH → Tr (TV × AH))
  | none

abbrev Specs := FuncId → Spec

def Spec.app (s : Spec) (args : List TV) (H : AH) : Tr (TV × AH) :=
  match s with
  | .pure F => (F args).bind fun r => .ok (r, H)
  | .read F => (F args H).bind fun r => .ok (r, H)
  | .eff F => F args H
  | .none => .no

inductive Cl where
  | N | R | E
  deriving DecidableEq

def clCall (Γ : Specs) (c : Call) : Cl :=
  match c.callee with
  | .value (.func f) => match Γ f with
    | .pure _ => .N
    | .read _ => .R
    | _ => .E
  | .value (.tmp _) => match Γ 3 with
    | .read _ => .R
    | _ => .E
  | .builtin .len | .builtin .min | .builtin .max => .N
  | _ => .E

def clConv (P : Program) (src dst : TypeId) : Cl :=
  match P.underlying src, P.underlying dst with
  | _, some (.slice _) => .E
  | some (.slice _), _ => .R
  | _, _ => .N

def cls (P : Program) (Γ : Specs) (op : Op) : Cl :=
  match op with
  | .move _ | .assign _ | .pick .. | .build .. | .nilCheck _ | .sliceToArrayPointer .. | .binOp .. | .unOp .. | .makeFunc .. | .slice .. | .fieldAddr .. | .field .. | .indexAddr .. | .index .. | .extract .. => .N
  | .convert src dst _ => clConv P src dst
  | .load .. => .R
  | .call c => clCall Γ c
  | _ => .E

def stepN (P : Program) (Γ : Specs) (y : Option Nat) (ρ : Operand → TV) (op : Op) : Tr TV :=
  match op with
  | .move x | .assign x => .ok (ρ x)
  | .pick c a b => match ρ c with
    | .v (.s (.b x)) => pickT x (ρ a) (ρ b)
    | _ => .no
  | .build t parts => match partsT ρ parts.toList with
    | some ps => opt (buildT P t ps)
    | none => .no
  | .nilCheck x => match ρ x with
    | .v (.s (.p id o)) => .ok (.v (.s (.p id o)))
    | .v (.s (.pr id wd i c)) => .ok (.v (.s (.pr id wd i c)))
    | .v (.s (.px id wd i o n len j c)) => .ok (.v (.s (.px id wd i o n len j c)))
    | _ => .no
  | .binOp op t a b _ => binT P y op t (ρ a) (ρ b)
  | .unOp op _ a => unT op (ρ a)
  | .convert src dst x => opt (convT P src dst (ρ x))
  | .makeFunc (.func f) first captured => match first.toList, capsT ρ captured.toList with
    | [], some l => .ok (.v (.s (.fn f l)))
    | _, _ => .no
  | .slice t x lo hi mx => sliceT P y t (ρ x) (lo.map ρ) (hi.map ρ) (mx.map ρ)
  | .sliceToArrayPointer arr x => opt (arrPtrT P arr (ρ x))
  | .fieldAddr s x f => opt (fieldAddrT P s (ρ x) f)
  | .field s x f => opt (fieldT P s (ρ x) f)
  | .indexAddr t x ix => indexAddrS P y t (ρ x) (ρ ix)
  | .index t x ix => indexS P y t (ρ x) (ρ ix)
  | .extract x i => opt (extractT (ρ x) i)
  | .call c => match c.callee with
    | .value (.func f) => match Γ f with
      | .pure F => F (c.args.toList.map ρ)
      | _ => .no
    | .builtin .len => match c.argTypes.toList, c.args.toList with
      | [t], [x] => opt (lenT P t (ρ x))
      | _, _ => .no
    | .builtin .min => match c.args.toList with
      | x :: rest => (opt (minT false (ρ x) (rest.map ρ))).bind (splitTV y)
      | [] => .no
    | .builtin .max => match c.args.toList with
      | x :: rest => opt (minT true (ρ x) (rest.map ρ))
      | [] => .no
    | _ => .no
  | _ => .no

def blk (H : AH) (id : Nat) : Option Blk := (H[id]?).join

/-- Cells that may be read. -/
def blkC (H : AH) (id : Nat) : Option Blk :=
  match blk H id with
  | some (.roc l) => some (.cells l)
  | b => b

/-- Cells of one row. -/
def rowCells (ks : List SK) (g : Nat → Int) : (n c : Nat) → Option (List AS)
  | 0, _ => some []
  | n + 1, c => match ks[c]? with
    | some sk => match rowCells ks g n (c + 1) with
      | some r => some (mkS sk (g c) :: r)
      | none => none
    | none => none

def loadT (P : Program) (H : AH) (t : TypeId) (a : TV) : Tr TV :=
  match a with
  | .v (.s (.p id o)) => match blkC H id with
    | some (.cells l) => match aggT P t with
      | some true => match sizeT P t with
        | some n => if o + n ≤ l.length ∧ n ≠ 0 then .ok (.v (.agg ((l.drop o).take n))) else .no
        | none => .no
      | some false => opt ((l[o]?).map fun a => .v (.s a))
      | none => .no
    | _ => .no
  | .v (.s (.pr id wd i c)) => match blk H id with
    | some (.rows ks _ g _) => if wd = ks.length then
        match aggT P t with
        | some true => match sizeT P t with
          | some m => if m = 0 then .no else opt ((rowCells ks (g i) m c).map fun l => .v (.agg l))
          | none => .no
        | some false => match ks[c]? with
          | some sk => .ok (.v (.s (mkS sk (g i c))))
          | none => .no
        | none => .no
      else .no
    | _ => .no
  | _ => .no

def loadX (P : Program) (H : AH) (t : TypeId) (id wd i o n len j c : Nat) : Tr TV :=
  match blkC H id with
  | some (.cells l) => if wd = 0 ∧ i = 0 then
      match aggT P t with
      | some true => match sizeT P t with
        | some m => if m = 0 then .no else opt ((selSs l n len j m (o + c)).map fun r => .v (.agg r))
        | none => .no
      | some false => opt ((selS l (o + c) n len j).map fun a => .v (.s a))
      | none => .no
    else .no
  | some (.rows ks _ g _) => if wd = ks.length ∧ wd ≠ 0 then
      match aggT P t with
      | some true => match sizeT P t with
        | some m => if m = 0 then .no else opt ((rowCellsX ks (g i) n len j m (o + c)).map fun r => .v (.agg r))
        | none => .no
      | some false => match kindX ks n len (o + c) with
        | some sk => .ok (.v (.s (mkS sk (g i (o + c + j * n)))))
        | none => .no
      | none => .no
    else .no
  | _ => .no

def loadS (P : Program) (H : AH) (t : TypeId) (a : TV) : Tr TV :=
  match a with
  | .v (.s (.px id wd i o n len j c)) => loadX P H t id wd i o n len j c
  | a => loadT P H t a

/-- A slice of numbers of one kind that is looked at: the block, where it begins, how many. -/
def viewT (x : TV) : Option (Nat × Nat × Nat × Nat) :=
  match x with
  | .v (.s (.slr id wd i len _)) => some (id, wd, i, len)
  | .v (.s (.slc id wd i len)) => some (id, wd, i, len)
  | .v (.s (.slq id wd i len)) => some (id, wd, i, len)
  | .v (.s (.slw id wd len)) => some (id, wd, 0, len)
  | _ => none

/-- A slice of bytes as a string. -/
def bytesStrT (P : Program) (H : AH) (src dst : TypeId) (x : TV) : Option TV :=
  match P.underlying src, P.underlying dst with
  | some (.slice e), some .string => match P.underlying e with
    | some (.int .u8) => match viewT x with
      | some (id, wd, i, len) => match blk H id with
        | some (.rows ks _ g _) => if wd = 1 ∧ ks = [.n .u8] then some (.v (.s (.str ((List.range len).map fun j => UInt8.ofNat (g (i + j) 0).toNat)))) else none
        | _ => none
      | none => none
    | _ => none
  | _, _ => none

/-- A call of a closure that only reads. (Where the specs name the seat's first law, which nothing calls, as one that reads, calls of closures are taken to be such.) -/
def dynR (Γ : Specs) (x : TV) (args : List TV) (H : AH) : Tr TV :=
  match x with
  | .v (.s (.fn f caps)) => match Γ f with
    | .read F => F (args ++ caps.map fun c => .v (.s (.p c.1 c.2))) H
    | .pure F => F (args ++ caps.map fun c => .v (.s (.p c.1 c.2)))
    | _ => .no
  | _ => .no

def stepR (P : Program) (Γ : Specs) (_y : Option Nat) (ρ : Operand → TV) (H : AH) (op : Op) : Tr TV :=
  match op with
  | .load t a => loadS P H t (ρ a)
  | .convert src dst x => opt (bytesStrT P H src dst (ρ x))
  | .call c => match c.callee with
    | .value (.func f) => match Γ f with
      | .read F => F (c.args.toList.map ρ) H
      | _ => .no
    | .value (.tmp t) => dynR Γ (ρ (.tmp t)) (c.args.toList.map ρ) H
    | _ => .no
  | _ => .no

/-! ### Operations that turn the memory -/

def allocA (H : AH) (l : List AS) : TV × AH := (.v (.s (.p H.length 0)), H ++ [some (.cells l)])

/-- 'g' with one cell turned. -/
def updG (g : Nat → Nat → Int) (i c : Nat) (x : Int) : Nat → Nat → Int := fun i' c' => if c' = c then (if i' = i then x else g i' c') else g i' c'

def updRow (ks : List SK) (g : Nat → Nat → Int) (i : Nat) : (c : Nat) → List AS → Option (Nat → Nat → Int)
  | _, [] => some g
  | c, a :: as => match ks[c]? with
    | some sk => match asInt sk a with
      | some x => updRow ks (updG g i c x) i (c + 1) as
      | none => none
    | none => none

def storeT (P : Program) (H : AH) (t : TypeId) (a v : TV) : Tr AH :=
  match v with
  | .v v => match sizeT P t with
    | some n => if v.cells.length = n then
        match a with
        | .v (.s (.p id o)) => match blk H id with
          | some (.cells l) => if o + n ≤ l.length ∧ n ≠ 0 then forceL (setAll l o v.cells) fun l' => .ok (H.set id (some (.cells l'))) else .no
          | _ => .no
        | .v (.s (.pr id wd i c)) => match blk H id with
          | some (.rows ks m g true) => if wd = ks.length ∧ n ≠ 0 then (match updRow ks g i c v.cells with
            | some g' => .ok (H.set id (some (.rows ks m g' true)))
            | none => .no) else .no
          | _ => .no
        | _ => .no
      else .no
    | none => .no
  | _ => .no

def updRowX (ks : List SK) (g : Nat → Nat → Int) (i n len j : Nat) : (o : Nat) → List AS → Option (Nat → Nat → Int)
  | _, [] => some g
  | o, a :: as => match kindX ks n len o with
    | some sk => match asInt sk a with
      | some x => updRowX ks (updG g i (o + j * n) x) i n len j (o + 1) as
      | none => none
    | none => none

def storeX (P : Program) (H : AH) (t : TypeId) (id wd i o n len j c : Nat) (v : TV) : Tr AH :=
  match v with
  | .v v => match sizeT P t with
    | some m => if v.cells.length = m ∧ m ≠ 0 then
        match blk H id with
        | some (.cells l) => if wd = 0 ∧ i = 0 ∧ n ≠ 0 then
            (match setXs n len j v.cells (o + c) l with
            | some l' => forceL l' fun l' => .ok (H.set id (some (.cells l')))
            | none => .no)
          else .no
        | some (.rows ks r g true) => if wd = ks.length ∧ wd ≠ 0 then
            (match updRowX ks g i n len j (o + c) v.cells with
            | some g' => .ok (H.set id (some (.rows ks r g' true)))
            | none => .no)
          else .no
        | _ => .no
      else .no
    | none => .no
  | _ => .no

def storeS (P : Program) (H : AH) (t : TypeId) (a v : TV) : Tr AH :=
  match a with
  | .v (.s (.px id wd i o n len j c)) => storeX P H t id wd i o n len j c v
  | a => storeT P H t a v

/-- Parts of a slice's literal. -/
def buildSliceT (P : Program) (H : AH) (t : TypeId) (len : Nat) (parts : List (Nat × AV)) : Option (TV × AH) :=
  match P.underlying t with
  | some (.slice e) => match sizeT P e with
    | some n => if len * n > 2 ^ 24 then none else
      if n = 0 then none else
      if len = 0 then (match kindsT P e, parts with
        | some ks, [] => if ks.length = n then some (.v (.s (.slw H.length n 0)), H ++ [some (.rows ks 0 (fun _ _ => 0) true)]) else none
        | _, _ => none) else
      match zeroT P e with
      | some zero => if zero.length ≠ n then none else match fillA (fun i => some (i * n, n)) ((List.range (len * n)).map fun i => zero.getD (i % zero.length) .pnil) parts with
        | some l => some (.v (.s (.sl H.length n 0 len)), H ++ [some (.cells l)])
        | none => none
      | none => none
    | none => none
  | _ => none

/-- A string as a slice of bytes of its own, that is not written to. -/
def strBytesT (P : Program) (H : AH) (src dst : TypeId) (x : TV) : Option (TV × AH) :=
  match P.underlying src, P.underlying dst with
  | some .string, some (.slice e) => match P.underlying e with
    | some (.int .u8) => match x with
      | .v (.s (.str l)) => some (.v (.s (.slw H.length 1 l.length)), H ++ [some (.rows [.n .u8] l.length (fun i _ => ((l.getD i 0).toNat : Int)) false)])
      | _ => none
    | _ => none
  | _, _ => none

/-- The numbers of a row that stands in cells. -/
def rowInts : List SK → List AS → Option (List Int)
  | [], _ => some []
  | k :: ks, a :: as => match asInt k a with
    | some x => match rowInts ks as with
      | some r => some (x :: r)
      | none => none
    | none => none
  | _ :: _, [] => none

def rowsOf (ks : List SK) : List AS → Nat → Option (List (List Int))
  | _, 0 => some []
  | l, m + 1 => match rowInts ks l with
    | some r => match rowsOf ks (l.drop ks.length) m with
      | some rs => some (r :: rs)
      | none => none
    | none => none

def rowsF : List (List Int) → Nat → Nat → Int
  | [r], _, c => r.getD c 0
  | rs, j, c => (rs.getD j []).getD c 0

/-- What is appended: of which block, how many rows, which. -/
def srcT (ks : List SK) (H : AH) (x : TV) : Option (Option Nat × Nat × (Nat → Nat → Int)) :=
  match x with
  | .v (.s (.sl id wd o m)) => match blkC H id with
    | some (.cells l) => if wd = ks.length then match rowsOf ks (l.drop o) m with
        | some rs => some (none, m, rowsF rs)
        | none => none
      else none
    | _ => none
  | x => match viewT x with
    | some (id, wd, i, m) => match blk H id with
      | some (.rows ks' _ g _) => if wd = ks.length ∧ ks' = ks then some (some id, m, fun j c => g (i + j) c) else none
      | _ => none
    | none => none

/-- Rows with others from 'n' on. -/
def appG (g : Nat → Nat → Int) (n : Nat) (src : Nat → Nat → Int) : Nat → Nat → Int := fun i c => if i < n then g i c else src (i - n) c

/-- Rows of which 'm' from 'a' on are others. -/
def midG (g : Nat → Nat → Int) (a m : Nat) (src : Nat → Nat → Int) : Nat → Nat → Int := fun i c => if a ≤ i ∧ i < a + m then src (i - a) c else g i c

def appendT (P : Program) (y : Option Nat) (H : AH) (sT xT : TypeId) (s x : TV) : Tr (TV × AH) :=
  match P.underlying sT, P.underlying xT with
  | some (.slice e), some (.slice _) => match kindsT P e, sizeT P e with
    | some ks, some wd => if ks.length = wd ∧ wd ≠ 0 ∧ P.bytesOf e ≤ 1024 then
        match srcT ks H x with
        | some (sid, m, src) => match s with
          | .v (.s .slnil) => chk y (decide (0 < m) && decide (m ≤ 1073741824)) (.ok (.v (.s (.slr H.length wd 0 m m)), H ++ [some (.rows ks m src true)]))
          | .v (.s (.slr id wd' i len cp)) => match blk H id with
            | some (.rows ks' n g true) => if wd' = wd ∧ ks' = ks then
                (if sid = some id then .no
                else chk y ((i == 0) && (len == n) && decide (n + m ≤ 1073741824)) (.ok (.v (.s (.slr H.length wd 0 (n + m) (n + m))), H.set id none ++ [some (.rows ks (n + m) (appG g n src) true)])))
              else .no
            | _ => .no
          | .v (.s (.slc id wd' i len)) => match blk H id with
            | some (.rows ks' _ g _) => if wd' = wd ∧ ks' = ks then
                chk y ((decide (0 < m) || (len == 0)) && decide (len + m ≤ 1073741824)) (.ok (.v (.s (.slr H.length wd 0 (len + m) (len + m))), H ++ [some (.rows ks (len + m) (appG (fun k c => g (i + k) c) len src) true)]))
              else .no
            | _ => .no
          | _ => .no
        | none => .no
      else .no
    | _, _ => .no
  | _, _ => .no

def toSlw : TV × AH → TV × AH
  | (.v (.s (.slr id wd _ len _)), H) => (.v (.s (.slw id wd len)), H)
  | r => r

/-- Rows of a block laid over others of it, from where a slice of it ends on, in place. -/
def inT (P : Program) (y : Option Nat) (H : AH) (sT xT : TypeId) (s x : TV) : Option (Tr (TV × AH)) :=
  match s with
  | .v (.s (.slr id wd' i len cp)) => match P.underlying sT, P.underlying xT with
    | some (.slice e), some (.slice _) => match kindsT P e, sizeT P e with
      | some ks, some wd => if ks.length = wd ∧ wd ≠ 0 ∧ wd' = wd then
          match srcT ks H x with
          | some (some sid, m, src) => match Nat.beq sid id with
            | true => match blk H id with
              | some (.rows ks' _ g true) => if ks' = ks then
                  some (chk y ((i == 0) && decide (len + m ≤ cp)) (.ok (.v (.s (.slk H.length wd (len + m) cp)), H.set id none ++ [some (.rows ks (len + m) (appG g len src) true)])))
                else none
              | _ => none
            | false => none
          | _ => none
        else none
      | _, _ => none
    | _, _ => none
  | _ => none

/-- An append, whose slice is one over all rows of a block, or none. -/
def appendS (P : Program) (y : Option Nat) (H : AH) (sT xT : TypeId) (s x : TV) : Tr (TV × AH) :=
  match s with
  | .v (.s .slnil) => match P.underlying sT with
    | some (.slice e) => match kindsT P e with
      | some ks => match srcT ks (H ++ [some (.rows ks 0 (fun _ _ => 0) true)]) x with
        | some (sid, m, src) => if ks.length = 0 ∨ sid = some H.length ∨ ¬ (P.underlying xT).isSome ∨ sizeT P e ≠ some ks.length ∨ P.bytesOf e > 1024 then .no else
          match P.underlying xT with
          | some (.slice _) => chk y (decide (m ≤ 1073741824)) (.ok (.v (.s (.slw (H.length + 1) ks.length m)), H ++ [none] ++ [some (.rows ks m src true)]))
          | _ => .no
        | none => .no
      | none => .no
    | _ => .no
  | .v (.s (.slw id wd _)) => match P.underlying sT, P.underlying xT with
    | some (.slice e), some (.slice _) => match kindsT P e with
      | some ks => match srcT ks H x with
        | some (sid, m, src) => match blk H id with
          | some (.rows ks' n g true) => if ks.length ≠ 0 ∧ sid ≠ some id ∧ sizeT P e = some ks.length ∧ P.bytesOf e ≤ 1024 ∧ wd = ks.length ∧ ks' = ks then
              chk y (decide (n + m ≤ 1073741824)) (.ok (.v (.s (.slw H.length ks.length (n + m))), H.set id none ++ [some (.rows ks (n + m) (appG g n src) true)]))
            else .no
          | _ => .no
        | none => .no
      | none => .no
    | _, _ => .no
  | s => match inT P y H sT xT s x with
    | some r => r
    | none => (appendT P y H sT xT s x).bind fun r => .ok (toSlw r)

def copyT (P : Program) (H : AH) (dT : TypeId) (d s : TV) : Option (TV × AH) :=
  match P.underlying dT with
  | some (.slice e) => match sizeT P e, d, s with
    | some wd, .v (.s (.sl did wd1 o dlen)), .v (.s (.sl sid wd2 so slen)) => if wd1 = wd ∧ wd2 = wd then
        match blk H did, blkC H sid with
        | some (.cells l), some (.cells ls) =>
          if o + min slen dlen * wd ≤ l.length ∧ so + min slen dlen * wd ≤ ls.length ∧ min slen dlen * wd ≠ 0 then
            forceL (setAll l o ((ls.drop so).take (min slen dlen * wd))) fun l' => some (tvn .i64 (min slen dlen : Nat), H.set did (some (.cells l')))
          else none
        | _, _ => none
      else none
    | _, _, _ => none
  | _ => none

def clearT (P : Program) (H : AH) (t : TypeId) (x : TV) : Option (TV × AH) :=
  match P.underlying t with
  | some (.slice e) => match kindsT P e, x with
    | some ks, .v (.s (.slr id wd i len _)) => match blk H id with
      | some (.rows ks' n g true) => if wd = ks.length ∧ ks' = ks then some (.tup [], H.set id (some (.rows ks n (midG g i len fun _ _ => 0) true))) else none
      | _ => none
    | some ks, .v (.s (.sld id wd _)) => match blk H id with
      | some (.rows ks' n g true) => if wd = ks.length ∧ ks' = ks then some (.tup [], H.set id (some (.rows ks n g true))) else none
      | _ => none
    | _, _ => none
  | _ => none

/-- The bytes of a literal text: from here on only read. -/
def litBytesT (P : Program) (H : AH) (src dst : TypeId) (x : TV) : Option (TV × AH) :=
  match Nat.beq src dst, P.underlying src, x with
  | true, some (.slice e), .v (.s (.sl id 1 0 len)) => match P.underlying e, blk H id with
    | some (.int .u8), some (.cells l) => if l.length = len ∧ len ≠ 0 then
        match rowsOf [.n .u8] l len with
        | some rs => some (.v (.s (.slq H.length 1 0 len)), H.set id none ++ [some (.rows [.n .u8] len (rowsF rs) false)])
        | none => none
      else none
    | _, _ => none
  | _, _, _ => none

def convE (P : Program) (H : AH) (src dst : TypeId) (x : TV) : Option (TV × AH) :=
  match x with
  | .v (.s (.str _)) => strBytesT P H src dst x
  | _ => litBytesT P H src dst x

def callT (Γ : Specs) (f : FuncId) (args : List TV) (H : AH) : Tr (TV × AH) := (Γ f).app args H

def stepE (P : Program) (Γ : Specs) (y : Option Nat) (ρ : Operand → TV) (H : AH) (op : Op) : Tr (TV × AH) :=
  match op with
  | .alloc t => match zeroT P t with
    | some l => .ok (allocA H l)
    | none => .no
  | .box _ x => match ρ x with
    | .v a => .ok (allocA H a.cells)
    | _ => .no
  | .buildSlice t len parts => match partsT ρ parts.toList with
    | some ps => opt (buildSliceT P H t len ps)
    | none => .no
  | .store t a x => (storeS P H t (ρ a) (ρ x)).bind fun H' => .ok (.tup [], H')
  | .convert src dst x => opt (convE P H src dst (ρ x))
  | .call c => match c.callee with
    | .builtin .append => match c.argTypes.toList, c.args.toList with
      | [sT, xT], [a, b] => appendS P y H sT xT (ρ a) (ρ b)
      | _, _ => .no
    | .builtin .copy => match c.argTypes.toList, c.args.toList with
      | [dT, _], [a, b] => opt (copyT P H dT (ρ a) (ρ b))
      | _, _ => .no
    | .builtin .clear => match c.argTypes.toList, c.args.toList with
      | [t], [a] => opt (clearT P H t (ρ a))
      | _, _ => .no
    | .value x => match ρ x with
      | .v (.s (.fn f caps)) => callT Γ f (c.args.toList.map ρ ++ caps.map fun c => .v (.s (.p c.1 c.2))) H
      | _ => .no
    | _ => .no
  | _ => .no

def step (P : Program) (Γ : Specs) (y : Option Nat) (ρ : Operand → TV) (H : AH) (op : Op) : Tr (TV × AH) :=
  match cls P Γ op with
  | .N => (stepN P Γ y ρ op).bind fun v => .ok (v, H)
  | .R => (stepR P Γ y ρ H op).bind fun v => .ok (v, H)
  | .E => stepE P Γ y ρ H op

end Go.AM
