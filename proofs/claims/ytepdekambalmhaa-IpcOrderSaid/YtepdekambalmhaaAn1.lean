/-
  The abstract machine, part 17: what of the memory a function has to do with: shapes and what stands in them.
-/
import Derived.Test.YtepdekambalmhaaAmE
namespace Go.AM

/-- What stands in a shape: numbers, truth values, places, rows. -/
inductive At where
  | i (x : Int)
  | b (x : Bool)
  | n (x : Nat)
  | r (n : Nat) (g : Nat → Nat → Int)

def aI (l : List At) (i : Nat) : Int := match l[i]? with | some (.i x) => x | _ => 0
def aB (l : List At) (i : Nat) : Bool := match l[i]? with | some (.b x) => x | _ => false
def aN (l : List At) (i : Nat) : Nat := match l[i]? with | some (.n x) => x | _ => 0
def aRn (l : List At) (i : Nat) : Nat := match l[i]? with | some (.r n _) => n | _ => 0
def aRg (l : List At) (i : Nat) : Nat → Nat → Int := match l[i]? with | some (.r _ g) => g | _ => fun _ _ => 0

/-- Shapes of one cell. 'sw': a slice over all rows of a block; 'sq': over some; 'vw': a slice that is laid out as a block of its own; 'opq': not looked at. -/
inductive Sh where
  | k (sk : SK)
  | p (id o : Nat)
  | pr (id wd c : Nat)
  | sw (id wd : Nat)
  | sq (id wd : Nat)
  | vw (id wd : Nat)
  | opq (id : Nat)
  | pnil
  | slnil
  | fnil
  | fn (f : FuncId) (caps : List (Nat × Nat))

inductive BSh where
  | no
  | cells (l : List Sh)
  | roc (l : List Sh)
  | rows (ks : List SK) (own : Bool)

def BSh.mut : BSh → Bool
  | .cells _ => true
  | .rows _ own => own
  | _ => false

inductive TSh where
  | v (agg : Bool) (l : List Sh)
  | tup (l : List (Bool × List Sh))
  | any

structure FSh where
  vals : List TSh
  hp : List BSh

/-! ### what is made of a shape and what stands in it -/

def Sh.w : Sh → Nat
  | .k _ => 1
  | .pr .. => 1
  | .sq .. => 2
  | _ => 0

def shsW : List Sh → Nat
  | [] => 0
  | s :: r => s.w + shsW r

def avsW : List (Bool × List Sh) → Nat
  | [] => 0
  | s :: r => shsW s.2 + avsW r

def TSh.w : TSh → Nat
  | .v _ l => shsW l
  | .tup l => avsW l
  | .any => 0

def tshsW : List TSh → Nat
  | [] => 0
  | s :: r => s.w + tshsW r

def BSh.w : BSh → Nat
  | .no => 0
  | .cells l => shsW l
  | .roc l => shsW l
  | .rows _ _ => 1

def mkSh (ns : List Nat) (l : List At) (i : Nat) : Sh → AS
  | .k .b => .b (aB l i)
  | .k (.n k) => .n k (aI l i)
  | .p id o => .p id o
  | .pr id wd c => .pr id wd (aN l i) c
  | .sw id wd => .slw id wd (ns.getD id 0)
  | .sq id wd => .slq id wd (aN l i) (aN l (i + 1))
  | .vw id wd => .slq id wd 0 (ns.getD id 0)
  | .opq id => .opq id
  | .pnil => .pnil
  | .slnil => .slnil
  | .fnil => .fnil
  | .fn f caps => .fn f caps

def mkShs (ns : List Nat) (l : List At) : Nat → List Sh → List AS
  | _, [] => []
  | i, s :: r => mkSh ns l i s :: mkShs ns l (i + s.w) r

def mkAVS (ns : List Nat) (l : List At) (i : Nat) : Bool × List Sh → AV
  | (true, r) => .agg (mkShs ns l i r)
  | (false, s :: _) => .s (mkSh ns l i s)
  | (false, []) => .agg []

def mkAVSs (ns : List Nat) (l : List At) : Nat → List (Bool × List Sh) → List AV
  | _, [] => []
  | i, s :: r => mkAVS ns l i s :: mkAVSs ns l (i + shsW s.2) r

def mkTV (ns : List Nat) (l : List At) (i : Nat) : TSh → TV
  | .v b r => .v (mkAVS ns l i (b, r))
  | .tup r => .tup (mkAVSs ns l i r)
  | .any => .any

def mkTVs (ns : List Nat) (l : List At) : Nat → List TSh → List TV
  | _, [] => []
  | i, s :: r => mkTV ns l i s :: mkTVs ns l (i + s.w) r

def mkNs (l : List At) : Nat → List BSh → List Nat
  | _, [] => []
  | i, s :: r => (match s with | .rows _ _ => aRn l i | _ => 0) :: mkNs l (i + s.w) r

def mkB (ns : List Nat) (l : List At) (i : Nat) : BSh → Option Blk
  | .no => none
  | .cells r => some (.cells (mkShs ns l i r))
  | .roc r => some (.roc (mkShs ns l i r))
  | .rows ks own => some (.rows ks (aRn l i) (aRg l i) own)

def mkBs (ns : List Nat) (l : List At) : Nat → List BSh → AH
  | _, [] => []
  | i, s :: r => mkB ns l i s :: mkBs ns l (i + s.w) r

def mkV (sh : FSh) (l : List At) : List TV := mkTVs (mkNs l (tshsW sh.vals) sh.hp) l 0 sh.vals
def mkH (sh : FSh) (l : List At) : AH := mkBs (mkNs l (tshsW sh.vals) sh.hp) l (tshsW sh.vals) sh.hp

/-! ### from a state to a shape: which block is which, and what stands in it -/

inductive Src where
  | blk (id : Nat)
  | view (id wd i len : Nat)
  | cview (id wd o len : Nat)
  | fresh
  | opq (a : AS)

def Src.cid : Src → Option Nat
  | .blk c => some c
  | .view c _ _ _ => some c
  | .cview c _ _ _ => some c
  | _ => none

def bindId (σ : List Src) (id cid : Nat) : Option (List Src) :=
  match σ[id]? with
  | some (.blk c) => match Nat.beq c cid with
    | true => some σ
    | false => none
  | some _ => none
  | none => match Nat.beq id σ.length with
    | true => some (σ ++ [.blk cid])
    | false => none

def bindCaps : List Src → List (Nat × Nat) → List (Nat × Nat) → Option (List Src)
  | σ, [], [] => some σ
  | σ, (id, o) :: r, (cid, o') :: r' => match Nat.beq o o' with
    | true => match bindId σ id cid with
      | some σ' => bindCaps σ' r r'
      | none => none
    | false => none
  | _, _, _ => none

def isRows (bs : List BSh) (id : Nat) : Bool :=
  match bs[id]? with
  | some (.rows _ _) => true
  | _ => false

def opqOk : AS → Bool
  | .b _ | .n _ _ | .str _ | .opq _ | .slk .. | .sld .. => false
  | _ => true

def takeS (bs : List BSh) (N : Nat) (σ : List Src) : Sh → AS → Option (List Src × List At)
  | .k .b, .b x => some (σ, [.b x])
  | .k (.n k), .n k' x => if k = k' then some (σ, [.i x]) else none
  | .p id o, .p cid o' => match Nat.beq o o' with
    | true => (bindId σ id cid).map fun σ' => (σ', [])
    | false => none
  | .pr id wd c, .pr cid wd' i c' => match Nat.beq wd wd', Nat.beq c c' with
    | true, true => (bindId σ id cid).map fun σ' => (σ', [.n i])
    | _, _ => none
  | .sw id wd, .slw cid wd' _ => match Nat.beq wd wd', isRows bs id with
    | true, true => (bindId σ id cid).map fun σ' => (σ', [])
    | _, _ => none
  | .sw id wd, .slk cid wd' _ _ => match Nat.beq wd wd', isRows bs id with
    | true, true => (bindId σ id cid).map fun σ' => (σ', [])
    | _, _ => none
  | .sw id _, .slnil => match Nat.beq id σ.length, isRows bs id with
    | true, true => some (σ ++ [.fresh], [])
    | _, _ => none
  | .sq id wd, a => match viewT (.v (.s a)) with
    | some (cid, wd', i, len) => match Nat.beq wd wd' with
      | true => match Nat.blt cid N with
        | true => (bindId σ id cid).map fun σ' => (σ', [.n i, .n len])
        | false => none
      | false => none
    | none => none
  | .vw id wd, a => match Nat.beq id σ.length, isRows bs id with
    | true, true => match viewT (.v (.s a)) with
      | some (cid, wd', i, len) => match Nat.beq wd wd' with
        | true => some (σ ++ [.view cid wd i len], [])
        | false => none
      | none => match a with
        | .sl cid wd' o len => match Nat.beq wd wd' with
          | true => some (σ ++ [.cview cid wd o len], [])
          | false => none
        | .slnil => some (σ ++ [.fresh], [])
        | _ => none
    | _, _ => none
  | .opq id, .opq cid => (bindId σ id cid).map fun σ' => (σ', [])
  | .opq id, a => match Nat.beq id σ.length, opqOk a with
    | true, true => some (σ ++ [.opq a], [])
    | _, _ => none
  | .pnil, .pnil => some (σ, [])
  | .slnil, .slnil => some (σ, [])
  | .fnil, .fnil => some (σ, [])
  | .fn f caps, .fn f' caps' => match Nat.beq f f' with
    | true => (bindCaps σ caps caps').map fun σ' => (σ', [])
    | false => none
  | _, _ => none

def takeL (bs : List BSh) (N : Nat) : List Src → List Sh → List AS → Option (List Src × List At)
  | σ, [], [] => some (σ, [])
  | σ, s :: r, a :: as => match takeS bs N σ s a with
    | some (σ1, x) => match takeL bs N σ1 r as with
      | some (σ2, y) => some (σ2, x ++ y)
      | none => none
    | none => none
  | _, _, _ => none

def takeA (bs : List BSh) (N : Nat) (σ : List Src) : Bool × List Sh → AV → Option (List Src × List At)
  | (true, r), .agg as => takeL bs N σ r as
  | (false, [s]), .s a => takeS bs N σ s a
  | _, _ => none

def takeAs (bs : List BSh) (N : Nat) : List Src → List (Bool × List Sh) → List AV → Option (List Src × List At)
  | σ, [], [] => some (σ, [])
  | σ, s :: r, a :: as => match takeA bs N σ s a with
    | some (σ1, x) => match takeAs bs N σ1 r as with
      | some (σ2, y) => some (σ2, x ++ y)
      | none => none
    | none => none
  | _, _, _ => none

def takeT (bs : List BSh) (N : Nat) (σ : List Src) : TSh → TV → Option (List Src × List At)
  | .v b r, .v a => takeA bs N σ (b, r) a
  | .v b r, .k c => takeA bs N σ (b, r) (.s (.b c))
  | .tup r, .tup as => takeAs bs N σ r as
  | .any, _ => some (σ, [])
  | _, _ => none

def takeTs (bs : List BSh) (N : Nat) : List Src → List TSh → List TV → Option (List Src × List At)
  | σ, [], [] => some (σ, [])
  | σ, s :: r, a :: as => match takeT bs N σ s a with
    | some (σ1, x) => match takeTs bs N σ1 r as with
      | some (σ2, y) => some (σ2, x ++ y)
      | none => none
    | none => none
  | _, _, _ => none

def takeB (H : AH) (bs : List BSh) (σ : List Src) : Src → BSh → Option (List Src × List At)
  | _, .no => some (σ, [])
  | .blk c, .cells r => match blk H c with
    | some (.cells as) => takeL bs H.length σ r as
    | _ => none
  | .blk c, .roc r => match blkC H c with
    | some (.cells as) => takeL bs H.length σ r as
    | _ => none
  | .blk c, .rows ks own => match blk H c with
    | some (.rows ks' n g own') => if ks = ks' ∧ (own = true → own' = true) then some (σ, [.r n g]) else none
    | _ => none
  | .view c wd i len, .rows ks false => match blk H c with
    | some (.rows ks' _ g _) => if ks = ks' ∧ wd = ks.length then some (σ, [.r len fun j cc => g (i + j) cc]) else none
    | _ => none
  | .cview c wd o len, .rows ks false => match blkC H c with
    | some (.cells l) => if wd = ks.length then match rowsOf ks (l.drop o) len with
        | some rs => some (σ, [.r len (rowsF rs)])
        | none => none
      else none
    | _ => none
  | .fresh, .rows _ _ => some (σ, [.r 0 fun _ _ => 0])
  | _, _ => none

def takeBs (H : AH) (bs : List BSh) : (j : Nat) → List BSh → List Src → Option (List Src × List At)
  | _, [], σ => some (σ, [])
  | j, b :: r, σ => match σ[j]? with
    | some s => match takeB H bs σ s b with
      | some (σ1, x) => match takeBs H bs (j + 1) r σ1 with
        | some (σ2, y) => some (σ2, x ++ y)
        | none => none
      | none => none
    | none => none

/-- No block twice, but where it is only read. -/
def apartS (s : Src) (b : BSh) : List Src → List BSh → Bool
  | s' :: r, b' :: r' => match b.mut || b'.mut, s.cid, s'.cid with
    | true, some c, some c' => match Nat.beq c c' with
      | true => false
      | false => apartS s b r r'
    | _, _, _ => apartS s b r r'
  | _, _ => true

def apartSs : List Src → List BSh → Bool
  | s :: r, b :: r' => match apartS s b r r' with
    | true => apartSs r r'
    | false => false
  | _, _ => true

def firstK : Nat → Nat → List Src
  | _, 0 => []
  | i, n + 1 => .blk i :: firstK (i + 1) n

def takeF (k : Nat) (sh : FSh) (ts : List TV) (H : AH) : Option (List Src × List At) :=
  match takeTs sh.hp H.length (firstK 0 k) sh.vals ts with
  | some (σ1, x) => match takeBs H sh.hp 0 sh.hp σ1 with
    | some (σ2, y) => match Nat.beq σ2.length sh.hp.length, apartSs σ2 sh.hp with
      | true, true => some (σ2, x ++ y)
      | _, _ => none
    | none => none
  | none => none
end Go.AM
