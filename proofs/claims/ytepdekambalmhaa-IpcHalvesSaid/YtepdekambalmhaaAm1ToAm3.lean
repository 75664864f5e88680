/-
  The abstract machine, part 1: abstract values and blocks, what they stand for, and how what stands for them is kept.
-/
import Derived.Calls
import Derived.Orders
import Derived.Laws.Cells
import Derived.Laws.World
import Derived.Laws.CopyRow
import Derived.Laws.Tables
import Derived.Laws.StructEq
import Derived.Laws.Slices
import Derived.Laws.Append
import Derived.ChangeKeysEq
section
namespace Go.AM

/-- Kinds of a cell of a row. -/
inductive SK where
  | b
  | n (k : IntKind)
  deriving DecidableEq

/-- What one cell holds. 'p': a cell of a block of cells; 'pr': a cell of a row; 'px': of 'len' equal parts of 'n' cells from the cell 'o' on (of the row 'i'; 'wd' 0: of a block of cells) the cell 'c' of the part 'j'; 'sl', 'slr': slices over such ('cp': so many at least may be reached by slicing); 'slc': a slice over rows whose capacity is its length; 'slq': one of which no capacity is known; 'slw': a slice over all rows of a block, 'n' of them. 'slk': a slice over all 'n' rows of a block, of which 'cp' at least may be reached; 'sld': one over what lies behind a block's rows. 'opq': a value that is not looked at. -/
inductive AS where
  | b (x : Bool)
  | n (k : IntKind) (x : Int)
  | p (id o : Nat)
  | pr (id wd i c : Nat)
  | px (id wd i o n len j c : Nat)
  | pnil
  | sl (id wd o len : Nat)
  | slr (id wd i len cp : Nat)
  | slc (id wd i len : Nat)
  | slq (id wd i len : Nat)
  | slw (id wd n : Nat)
  | slk (id wd n cp : Nat)
  | sld (id wd len : Nat)
  | opq (id : Nat)
  | slnil
  | str (l : List UInt8)
  | fn (f : FuncId) (caps : List (Nat × Nat))
  | fnil

inductive AV where
  | s (a : AS)
  | agg (l : List AS)

inductive TV where
  | v (a : AV)
  | tup (l : List AV)
  | any
  | k (b : Bool)

/-- A block: cells ('roc': that are only read); or 'n' rows of the kinds 'ks', row 'i' has 'g i c' in its cell 'c'; 'own': nobody else has it. -/
inductive Blk where
  | cells (l : List AS)
  | roc (l : List AS)
  | rows (ks : List SK) (n : Nat) (g : Nat → Nat → Int) (own : Bool)

def Blk.mut : Blk → Bool
  | .cells _ => true
  | .roc _ => false
  | .rows _ _ _ own => own

abbrev AH := List (Option Blk)

structure ASt where
  tm : List TV
  hp : AH

/-- What else is known of a place: a value. -/
structure LocX where
  val : Value

def LocX.nil : LocX := ⟨.tuple #[]⟩

/-- Where a block lies: block, first cell, how many cells, how many rows. -/
structure Loc where
  b : Nat
  base : Nat
  sz : Nat
  n : Nat
  x : LocX

/-- The blocks of memory in which a block lies. -/
def Blk.foot (_ : Blk) (L : Loc) (b : Nat) : Prop := 0 < L.sz ∧ L.b = b

abbrev Phi := List Loc

def All2 {α β : Type} (R : α → β → Prop) : List α → List β → Prop
  | [], [] => True
  | a :: as, b :: bs => R a b ∧ All2 R as bs
  | _, _ => False

section All2
variable {α β : Type} {R S : α → β → Prop}

theorem All2.length_eq : ∀ {l : List α} {m : List β}, All2 R l m → l.length = m.length
  | [], [], _ => rfl
  | _ :: _, _ :: _, h => by simp [h.2.length_eq]
  | [], _ :: _, h => h.elim
  | _ :: _, [], h => h.elim

theorem All2.mono (hr : ∀ a b, R a b → S a b) : ∀ {l : List α} {m : List β}, All2 R l m → All2 S l m
  | [], [], _ => trivial
  | _ :: _, _ :: _, h => ⟨hr _ _ h.1, h.2.mono hr⟩
  | [], _ :: _, h => h.elim
  | _ :: _, [], h => h.elim

theorem All2.get : ∀ {l : List α} {m : List β} (_ : All2 R l m) {i : Nat} {a : α}, l[i]? = some a → ∃ b, m[i]? = some b ∧ R a b
  | [], [], _, i, a, hi => by simp at hi
  | x :: xs, y :: ys, h, 0, a, hi => by simp at hi; exact ⟨y, rfl, hi ▸ h.1⟩
  | x :: xs, y :: ys, h, i + 1, a, hi => by simpa using h.2.get (i := i) (by simpa using hi)
  | [], _ :: _, h, _, _, _ => h.elim
  | _ :: _, [], h, _, _, _ => h.elim

theorem All2.get_r : ∀ {l : List α} {m : List β} (_ : All2 R l m) {i : Nat} {b : β}, m[i]? = some b → ∃ a, l[i]? = some a ∧ R a b
  | [], [], _, i, a, hi => by simp at hi
  | x :: xs, y :: ys, h, 0, a, hi => by simp at hi; exact ⟨x, rfl, hi ▸ h.1⟩
  | x :: xs, y :: ys, h, i + 1, a, hi => by simpa using h.2.get_r (i := i) (by simpa using hi)
  | [], _ :: _, h, _, _, _ => h.elim
  | _ :: _, [], h, _, _, _ => h.elim

theorem All2.of_get : ∀ {l : List α} {m : List β}, l.length = m.length → (∀ (i : Nat) a b, l[i]? = some a → m[i]? = some b → R a b) → All2 R l m
  | [], [], _, _ => trivial
  | x :: xs, y :: ys, hl, h => ⟨h 0 x y rfl rfl, All2.of_get (by simpa using hl) (fun i a b ha hb => h (i + 1) a b (by simpa using ha) (by simpa using hb))⟩
  | [], _ :: _, hl, _ => by simp at hl
  | _ :: _, [], hl, _ => by simp at hl

theorem All2.set : ∀ {l : List α} {m : List β} (_ : All2 R l m) (i : Nat) {a : α} {b : β}, R a b → All2 R (l.set i a) (m.set i b)
  | [], [], _, _, _, _, _ => trivial
  | _ :: _, _ :: _, h, 0, _, _, hr => ⟨hr, h.2⟩
  | _ :: _, _ :: _, h, i + 1, _, _, hr => ⟨h.1, h.2.set i hr⟩
  | [], _ :: _, h, _, _, _, _ => h.elim
  | _ :: _, [], h, _, _, _, _ => h.elim

theorem All2.append : ∀ {l : List α} {m : List β} {l' : List α} {m' : List β}, All2 R l m → All2 R l' m' → All2 R (l ++ l') (m ++ m')
  | [], [], _, _, _, h' => h'
  | _ :: _, _ :: _, _, _, h, h' => ⟨h.1, h.2.append h'⟩
  | [], _ :: _, _, _, h, _ => h.elim
  | _ :: _, [], _, _, h, _ => h.elim

theorem All2.take : ∀ {l : List α} {m : List β} (_ : All2 R l m) (n : Nat), All2 R (l.take n) (m.take n)
  | [], [], _, _ => by simp [All2]
  | _ :: _, _ :: _, _, 0 => by simp [All2]
  | _ :: _, _ :: _, h, n + 1 => ⟨h.1, h.2.take n⟩
  | [], _ :: _, h, _ => h.elim
  | _ :: _, [], h, _ => h.elim

theorem All2.drop : ∀ {l : List α} {m : List β} (_ : All2 R l m) (n : Nat), All2 R (l.drop n) (m.drop n)
  | [], [], _, _ => by simp [All2]
  | _ :: _, _ :: _, h, 0 => h
  | _ :: _, _ :: _, h, n + 1 => h.2.drop n
  | [], _ :: _, h, _ => h.elim
  | _ :: _, [], h, _ => h.elim

theorem All2.map_l {γ : Type} {f : γ → α} {T : γ → β → Prop} (hf : ∀ c b, T c b → R (f c) b) : ∀ {l : List γ} {m : List β}, All2 T l m → All2 R (l.map f) m
  | [], [], _ => trivial
  | _ :: _, _ :: _, h => ⟨hf _ _ h.1, h.2.map_l hf⟩
  | [], _ :: _, h => h.elim
  | _ :: _, [], h => h.elim

theorem All2.map2 {γ δ : Type} {f : γ → α} {g : δ → β} {T : γ → δ → Prop} (hf : ∀ c d, T c d → R (f c) (g d)) : ∀ {l : List γ} {m : List δ}, All2 T l m → All2 R (l.map f) (m.map g)
  | [], [], _ => trivial
  | _ :: _, _ :: _, h => ⟨hf _ _ h.1, h.2.map2 hf⟩
  | [], _ :: _, h => h.elim
  | _ :: _, [], h => h.elim

theorem All2.replicate {a : α} {b : β} (h : R a b) : ∀ n, All2 R (List.replicate n a) (List.replicate n b)
  | 0 => trivial
  | n + 1 => ⟨h, All2.replicate h n⟩
end All2

def mkS : SK → Int → AS
  | .b, x => .b (x != 0)
  | .n k, x => .n k x

def relS (φ : Phi) : AS → Value → Prop
  | .b x, v => v = .bool x
  | .n k x, v => v = .int k x
  | .p id o, v => ∃ L, φ[id]? = some L ∧ v = .pointer (some ⟨L.b, L.base + o, none⟩)
  | .pr id wd i c, v => ∃ L, φ[id]? = some L ∧ i < L.n ∧ v = .pointer (some ⟨L.b, L.base + (i * wd + c), none⟩)
  | .px id wd i o n len j c, v => ∃ L, φ[id]? = some L ∧ j < len ∧ (wd = 0 ∨ i < L.n) ∧ v = .pointer (some ⟨L.b, L.base + (i * wd + (o + j * n + c)), none⟩)
  | .pnil, v => v = .pointer none
  | .sl id _ o len, v => (len = 0 ∧ ∃ a, v = .slice a 0 0) ∨ ∃ L cap, φ[id]? = some L ∧ len ≤ cap ∧ v = .slice (some ⟨L.b, L.base + o, none⟩) len cap
  | .slr id wd i len cp, v => (len = 0 ∧ cp = 0 ∧ ∃ a, v = .slice a 0 0) ∨ ∃ L cap, φ[id]? = some L ∧ len ≤ cp ∧ cp ≤ cap ∧ i + cp ≤ L.n ∧ (i + cap) * wd ≤ L.sz ∧ v = .slice (some ⟨L.b, L.base + i * wd, none⟩) len cap
  | .slc id wd i len, v => (len = 0 ∧ ∃ a, v = .slice a 0 0) ∨ ∃ L, φ[id]? = some L ∧ i + len ≤ L.n ∧ (i + len) * wd ≤ L.sz ∧ v = .slice (some ⟨L.b, L.base + i * wd, none⟩) len len
  | .slq id wd i len, v => (len = 0 ∧ ∃ a, v = .slice a 0 0) ∨ ∃ L cap, φ[id]? = some L ∧ len ≤ cap ∧ i + len ≤ L.n ∧ v = .slice (some ⟨L.b, L.base + i * wd, none⟩) len cap
  | .slw id wd n, v => ∃ L, φ[id]? = some L ∧ L.n = n ∧ ((n = 0 ∧ ∃ a, v = .slice a 0 0) ∨ ∃ cap, n ≤ cap ∧ cap * wd ≤ L.sz ∧ v = .slice (some ⟨L.b, L.base, none⟩) n cap)
  | .slk id wd n cp, v => ∃ L, φ[id]? = some L ∧ L.n = n ∧ n ≤ cp ∧ ((cp = 0 ∧ ∃ a, v = .slice a 0 0) ∨ ∃ cap, cp ≤ cap ∧ cap * wd ≤ L.sz ∧ v = .slice (some ⟨L.b, L.base, none⟩) n cap)
  | .sld id wd len, v => ∃ L, φ[id]? = some L ∧ ((len = 0 ∧ ∃ a, v = .slice a 0 0) ∨ ∃ o cap, L.n ≤ o ∧ len ≤ cap ∧ (o + cap) * wd ≤ L.sz ∧ v = .slice (some ⟨L.b, L.base + o * wd, none⟩) len cap)
  | .opq id, v => ∃ L, φ[id]? = some L ∧ v = L.x.val ∧ v.oneCell' = true ∧ (∀ k n, v ≠ .int k n) ∧ ∀ s, v ≠ .string s
  | .slnil, v => v = .slice none 0 0
  | .str l, v => ∃ s : ByteArray, v = .string s ∧ s.data.toList = l
  | .fn f caps, v => ∃ cs : List Value, v = .func (.func f) #[] cs.toArray ∧ All2 (fun (c : Nat × Nat) u => ∃ L, φ[c.1]? = some L ∧ u = .pointer (some ⟨L.b, L.base + c.2, none⟩)) caps cs
  | .fnil, v => v = .nilFunc

def relA (φ : Phi) : AV → Value → Prop
  | .s a, v => relS φ a v
  | .agg l, v => ∃ cs : Array Value, v = .agg cs ∧ All2 (relS φ) l cs.toList

def relT (φ : Phi) : TV → Value → Prop
  | .v a, v => relA φ a v
  | .tup l, v => ∃ vs : Array Value, v = .tuple vs ∧ All2 (relA φ) l vs.toList
  | .any, _ => True
  | .k b, v => v = .bool b

theorem slw_of_slk {φ : Phi} {id wd n cp : Nat} {v : Value} (h : relS φ (.slk id wd n cp) v) : relS φ (.slw id wd n) v := by
  obtain ⟨L, hL, hn, hle, h⟩ := h
  rcases h with ⟨h0, a, rfl⟩ | ⟨cap, h1, h2, rfl⟩
  · exact ⟨L, hL, hn, .inl ⟨by omega, a, rfl⟩⟩
  · exact ⟨L, hL, hn, .inr ⟨cap, by omega, h2, rfl⟩⟩

theorem slr_of_slw {φ : Phi} {id wd n : Nat} {v : Value} (h : relS φ (.slw id wd n) v) : relS φ (.slr id wd 0 n n) v := by
  obtain ⟨L, hL, hn, h⟩ := h
  rcases h with ⟨h0, a, rfl⟩ | ⟨cap, h1, h2, rfl⟩
  · exact .inl ⟨h0, h0, a, rfl⟩
  · exact .inr ⟨L, cap, hL, Nat.le_refl _, h1, by omega, by simpa using h2, by simp⟩

/-- A cell's value is one that a store takes. -/
theorem relS.oneCell {φ : Phi} {a : AS} {v : Value} (h : relS φ a v) : v.oneCell' = true := by
  cases a <;> simp only [relS] at h
  case b => subst h; rfl
  case n => subst h; rfl
  case p => obtain ⟨_, _, rfl⟩ := h; rfl
  case pr => obtain ⟨_, _, _, rfl⟩ := h; rfl
  case px => obtain ⟨_, _, _, _, rfl⟩ := h; rfl
  case pnil => subst h; rfl
  case sl => rcases h with ⟨_, _, rfl⟩ | ⟨_, _, _, _, rfl⟩ <;> rfl
  case slr => rcases h with ⟨_, _, _, rfl⟩ | ⟨_, _, _, _, _, _, _, rfl⟩ <;> rfl
  case slc => rcases h with ⟨_, _, rfl⟩ | ⟨_, _, _, _, rfl⟩ <;> rfl
  case slq => rcases h with ⟨_, _, rfl⟩ | ⟨_, _, _, _, _, rfl⟩ <;> rfl
  case slw => rcases h with ⟨_, _, _, ⟨_, _, rfl⟩ | ⟨_, _, _, rfl⟩⟩ <;> rfl
  case slk => rcases h with ⟨_, _, _, _, ⟨_, _, rfl⟩ | ⟨_, _, _, rfl⟩⟩ <;> rfl
  case sld => rcases h with ⟨_, _, ⟨_, _, rfl⟩ | ⟨_, _, _, _, _, rfl⟩⟩ <;> rfl
  case opq => obtain ⟨_, _, _, h, _⟩ := h; exact h
  case slnil => subst h; rfl
  case str => obtain ⟨_, rfl, _⟩ := h; rfl
  case fn => obtain ⟨_, rfl, _⟩ := h; rfl
  case fnil => subst h; rfl

theorem Value.cells_of_oneCell {v : Value} (h : v.oneCell' = true) : v.cells = #[v] := by
  cases v <;> first | rfl | (simp [Value.oneCell'] at h)

theorem get_prefix {φ ψ : Phi} {i : Nat} {L : Loc} (h : φ[i]? = some L) : (φ ++ ψ)[i]? = some L := by
  rw [List.getElem?_append_left]
  · exact h
  · rcases Nat.lt_or_ge i φ.length with h' | h'
    · exact h'
    · simp [List.getElem?_eq_none h'] at h

theorem relS.mono {φ : Phi} (ψ : Phi) {a : AS} {v : Value} (h : relS φ a v) : relS (φ ++ ψ) a v := by
  cases a <;> simp only [relS] at h ⊢
  case p => obtain ⟨L, h1, h2⟩ := h; exact ⟨L, get_prefix h1, h2⟩
  case pr => obtain ⟨L, h1, h2⟩ := h; exact ⟨L, get_prefix h1, h2⟩
  case px => obtain ⟨L, h1, h2⟩ := h; exact ⟨L, get_prefix h1, h2⟩
  case slw => obtain ⟨L, h1, h2⟩ := h; exact ⟨L, get_prefix h1, h2⟩
  case slk => obtain ⟨L, h1, h2⟩ := h; exact ⟨L, get_prefix h1, h2⟩
  case sld => obtain ⟨L, h1, h2⟩ := h; exact ⟨L, get_prefix h1, h2⟩
  case opq => obtain ⟨L, h1, h2⟩ := h; exact ⟨L, get_prefix h1, h2⟩
  case sl =>
    rcases h with h | ⟨L, cap, h1, h2⟩
    · exact .inl h
    · exact .inr ⟨L, cap, get_prefix h1, h2⟩
  case slr =>
    rcases h with h | ⟨L, cap, h1, h2⟩
    · exact .inl h
    · exact .inr ⟨L, cap, get_prefix h1, h2⟩
  case slc =>
    rcases h with h | ⟨L, h1, h2⟩
    · exact .inl h
    · exact .inr ⟨L, get_prefix h1, h2⟩
  case slq =>
    rcases h with h | ⟨L, cap, h1, h2⟩
    · exact .inl h
    · exact .inr ⟨L, cap, get_prefix h1, h2⟩
  case fn =>
    obtain ⟨cs, h1, h2⟩ := h
    exact ⟨cs, h1, h2.mono fun c u ⟨L, h1, h2⟩ => ⟨L, get_prefix h1, h2⟩⟩
  all_goals exact h

theorem relA.mono {φ : Phi} (ψ : Phi) {a : AV} {v : Value} (h : relA φ a v) : relA (φ ++ ψ) a v := by
  cases a with
  | s a => exact relS.mono ψ h
  | agg l => obtain ⟨cs, h1, h2⟩ := h; exact ⟨cs, h1, h2.mono fun _ _ h => relS.mono ψ h⟩

theorem relT.mono {φ : Phi} (ψ : Phi) {a : TV} {v : Value} (h : relT φ a v) : relT (φ ++ ψ) a v := by
  cases a with
  | v a => exact relA.mono ψ h
  | tup l => obtain ⟨cs, h1, h2⟩ := h; exact ⟨cs, h1, h2.mono fun _ _ h => relA.mono ψ h⟩
  | any => trivial
  | k b => exact h

/-- The cells of an abstract value. -/
def AV.cells : AV → List AS
  | .s a => [a]
  | .agg l => l

theorem relA.cells {φ : Phi} {a : AV} {v : Value} (h : relA φ a v) : All2 (relS φ) a.cells v.cells.toList := by
  cases a with
  | s a =>
    have h1 : v.cells = #[v] := Value.cells_of_oneCell (relS.oneCell h)
    rw [h1]
    exact ⟨h, trivial⟩
  | agg l => obtain ⟨cs, rfl, h2⟩ := h; exact h2

/-- What stands for a block. A block of no cells needs none. -/
def RepB (φ : Phi) (L : Loc) (heap : Array Obj) : Blk → Prop
  | .cells l => L.base = 0 ∧ L.sz = l.length ∧ (L.sz = 0 ∨ ∃ cs t, heap[L.b]? = some (.cells cs t (0, 0)) ∧ All2 (relS φ) l cs.toList)
  | .roc l => L.base = 0 ∧ L.sz = l.length ∧ (L.sz = 0 ∨ ∃ cs t, heap[L.b]? = some (.cells cs t (0, 0)) ∧ All2 (relS φ) l cs.toList)
  | .rows ks n g own => L.n = n ∧ n * ks.length ≤ L.sz ∧ (L.sz = 0 ∨ ∃ cs t fr, heap[L.b]? = some (.cells cs t fr) ∧ L.base + L.sz ≤ cs.size ∧ (own = true → L.base = 0 ∧ fr = (0, 0)) ∧
      ∀ (i c : Nat) (sk : SK), i < n → ks[c]? = some sk → ∃ v, cs[L.base + (i * ks.length + c)]? = some v ∧ relS φ (mkS sk (g i c)) v)

structure Rep (φ : Phi) (H : AH) (heap : Array Obj) : Prop where
  len : φ.length = H.length
  blk : ∀ (id : Nat) B, H[id]? = some (some B) → ∃ L, φ[id]? = some L ∧ RepB φ L heap B
  apart : ∀ (id id' : Nat) (B B' : Blk) (L L' : Loc) (b : Nat), H[id]? = some (some B) → H[id']? = some (some B') → φ[id]? = some L → φ[id']? = some L' → id ≠ id' → B.mut = true → B.foot L b → B'.foot L' b → False

/-- From one state to a later one: what is not of a mutable block stays. -/
structure ExtH (φ : Phi) (H : AH) (heap : Array Obj) (φ' : Phi) (H' : AH) (heap' : Array Obj) : Prop where
  size : heap.size ≤ heap'.size
  pre : ∃ ψ, φ' = φ ++ ψ
  frame : ∀ b, b < heap.size → (∀ (id : Nat) (B : Blk) (L : Loc), H[id]? = some (some B) → B.mut = true → φ[id]? = some L → ¬ B.foot L b) → heap'[b]? = heap[b]?
  img : ∀ (id : Nat) (B : Blk) (L : Loc) (b : Nat), H'[id]? = some (some B) → φ'[id]? = some L → B.foot L b → heap.size ≤ b ∨ ∃ (id0 : Nat) (B0 : Blk) (L0 : Loc), H[id0]? = some (some B0) ∧ φ[id0]? = some L0 ∧ B0.foot L0 b ∧ (B.mut = true → B0.mut = true)

theorem ExtH.refl (φ : Phi) (H : AH) (heap : Array Obj) : ExtH φ H heap φ H heap :=
  ⟨Nat.le_refl _, ⟨[], by simp⟩, fun _ _ _ => rfl, fun i B L _ h1 h2 h3 => .inr ⟨i, B, L, h1, h2, h3, fun h => h⟩⟩

theorem ExtH.trans {φ : Phi} {H : AH} {h : Array Obj} {φ1 : Phi} {H1 : AH} {h1 : Array Obj} {φ2 : Phi} {H2 : AH} {h2 : Array Obj}
    (a : ExtH φ H h φ1 H1 h1) (b : ExtH φ1 H1 h1 φ2 H2 h2) : ExtH φ H h φ2 H2 h2 := by
  refine ⟨Nat.le_trans a.size b.size, ?_, ?_, ?_⟩
  · obtain ⟨ψ, rfl⟩ := a.pre
    obtain ⟨ψ', rfl⟩ := b.pre
    exact ⟨ψ ++ ψ', by simp⟩
  · intro x hx hn
    rw [b.frame x (Nat.lt_of_lt_of_le hx a.size), a.frame x hx hn]
    intro id B L hB hm hL hf
    rcases a.img id B L x hB hL hf with h' | ⟨id0, B0, L0, e1, e2, e3, e4⟩
    · omega
    · exact hn id0 B0 L0 e1 (e4 hm) e2 e3
  · intro id B L x hB hL hf
    rcases b.img id B L x hB hL hf with h' | ⟨id0, B0, L0, e1, e2, e3, e4⟩
    · exact .inl (Nat.le_trans a.size h')
    · rcases a.img id0 B0 L0 x e1 e2 e3 with h' | ⟨id1, B1, L1, f1, f2, f3, f4⟩
      · exact .inl h'
      · exact .inr ⟨id1, B1, L1, f1, f2, f3, fun hm => f4 (e4 hm)⟩

/-- .. and the world outside is as it was. -/
structure Ext (φ : Phi) (H : AH) (w : World) (φ' : Phi) (H' : AH) (w' : World) : Prop extends ExtH φ H w.heap φ' H' w'.heap where
  os : w'.os = w.os
  output : w'.output = w.output
  tape : w'.tape = w.tape

theorem Ext.refl (φ : Phi) (H : AH) (w : World) : Ext φ H w φ H w := ⟨ExtH.refl φ H w.heap, rfl, rfl, rfl⟩

theorem Ext.drew {φ : Phi} {H : AH} {w : World} {φ' : Phi} {H' : AH} {w' : World} (h : Ext φ H { w with drawn := w.drawn + 1 } φ' H' w') : Ext φ H w φ' H' w' := ⟨h.toExtH, h.os, h.output, h.tape⟩

theorem Ext.trans {φ : Phi} {H : AH} {w : World} {φ1 : Phi} {H1 : AH} {w1 : World} {φ2 : Phi} {H2 : AH} {w2 : World} (a : Ext φ H w φ1 H1 w1) (b : Ext φ1 H1 w1 φ2 H2 w2) : Ext φ H w φ2 H2 w2 :=
  ⟨a.toExtH.trans b.toExtH, b.os.trans a.os, b.output.trans a.output, b.tape.trans a.tape⟩

/-- A block whose cells lie as they lay. -/
theorem RepB.of_heap {φ : Phi} {L : Loc} {heap heap' : Array Obj} {B : Blk} (h : RepB φ L heap B) (he : ∀ b, B.foot L b → heap'[b]? = heap[b]?) : RepB φ L heap' B := by
  cases B with
  | cells l =>
    obtain ⟨h1, h2, h3⟩ := h
    refine ⟨h1, h2, ?_⟩
    rcases Nat.eq_zero_or_pos L.sz with h0 | h0
    · exact .inl h0
    · rw [he L.b ⟨h0, rfl⟩]; exact h3
  | roc l =>
    obtain ⟨h1, h2, h3⟩ := h
    refine ⟨h1, h2, ?_⟩
    rcases Nat.eq_zero_or_pos L.sz with h0 | h0
    · exact .inl h0
    · rw [he L.b ⟨h0, rfl⟩]; exact h3
  | rows ks n g own =>
    obtain ⟨hn, h1, h3⟩ := h
    refine ⟨hn, h1, ?_⟩
    rcases Nat.eq_zero_or_pos L.sz with h0 | h0
    · exact .inl h0
    · rw [he L.b ⟨h0, rfl⟩]; exact h3

theorem RepB.mono {φ : Phi} (ψ : Phi) {L : Loc} {heap : Array Obj} {B : Blk} (h : RepB φ L heap B) : RepB (φ ++ ψ) L heap B := by
  cases B with
  | cells l =>
    obtain ⟨h1, h2, h3⟩ := h
    exact ⟨h1, h2, h3.imp id fun ⟨cs, t, h3, h4⟩ => ⟨cs, t, h3, h4.mono fun _ _ h => relS.mono ψ h⟩⟩
  | roc l =>
    obtain ⟨h1, h2, h3⟩ := h
    exact ⟨h1, h2, h3.imp id fun ⟨cs, t, h3, h4⟩ => ⟨cs, t, h3, h4.mono fun _ _ h => relS.mono ψ h⟩⟩
  | rows ks n g own =>
    obtain ⟨hn, h1, h2⟩ := h
    exact ⟨hn, h1, h2.imp id fun ⟨cs, t, fr, h2, h3, h4, h5⟩ => ⟨cs, t, fr, h2, h3, h4, fun i c sk hi hc => let ⟨v, e1, e2⟩ := h5 i c sk hi hc; ⟨v, e1, relS.mono ψ e2⟩⟩⟩

theorem RepB.lt {φ : Phi} {L : Loc} {heap : Array Obj} {B : Blk} (h : RepB φ L heap B) {b : Nat} (hf : B.foot L b) : b < heap.size := by
  have key : ∀ {b : Nat} {o : Obj}, heap[b]? = some o → b < heap.size := by
    intro b o ho
    rcases Nat.lt_or_ge b heap.size with h' | h'
    · exact h'
    · simp [Array.getElem?_eq_none h'] at ho
  obtain ⟨h0, rfl⟩ := hf
  cases B with
  | cells l => obtain ⟨_, _, h3 | ⟨cs, t, h3, _⟩⟩ := h; omega; exact key h3
  | roc l => obtain ⟨_, _, h3 | ⟨cs, t, h3, _⟩⟩ := h; omega; exact key h3
  | rows ks n g own => obtain ⟨_, _, h3 | ⟨cs, t, fr, h2, _⟩⟩ := h; omega; exact key h2

/-- The representation in a later heap in which all blocks that stood are as they were. -/
theorem Rep.of_heap {φ : Phi} {H : AH} {heap heap' : Array Obj} (h : Rep φ H heap) (he : ∀ b, b < heap.size → heap'[b]? = heap[b]?) : Rep φ H heap' :=
  ⟨h.len, fun id B hB => let ⟨L, h1, h2⟩ := h.blk id B hB; ⟨L, h1, h2.of_heap fun _ hf => he _ (h2.lt hf)⟩, h.apart⟩

end Go.AM
end

/-
  The abstract machine, part 2: one operation. Definitions.
-/
section
namespace Go.AM

/-- Ways: 'br' parts on what is not known ('g': where), 'no' is outside of what is followed. -/
inductive Tr (α : Type) where
  | ok (a : α)
  | br (g : Nat) (c : Bool) (t e : Tr α)
  | no

def Tr.bind {α β : Type} : Tr α → (α → Tr β) → Tr β
  | .ok a, f => f a
  | .br g c t e, f => .br g c (t.bind f) (e.bind f)
  | .no, _ => .no

def Tr.val {α : Type} : Tr α → Option α
  | .ok a => some a
  | .br _ c t e => match c with
    | true => t.val
    | false => e.val
  | .no => none

def Tr.sat {α : Type} (t : Tr α) (Q : α → Prop) : Prop := ∃ a, t.val = some a ∧ Q a

theorem Tr.val_bind {α β : Type} (t : Tr α) (f : α → Tr β) : (t.bind f).val = t.val.bind fun a => (f a).val := by
  induction t with
  | ok a => rfl
  | br g c t e iht ihe => cases c <;> simp only [Tr.bind, Tr.val, iht, ihe]
  | no => rfl

theorem Tr.sat_ok {α : Type} {a : α} {Q : α → Prop} : (Tr.ok a).sat Q ↔ Q a := by simp [Tr.sat, Tr.val]
theorem Tr.sat_no {α : Type} {Q : α → Prop} : (Tr.no : Tr α).sat Q ↔ False := by simp [Tr.sat, Tr.val]
theorem Tr.sat_br {α : Type} {g : Nat} {c : Bool} {t e : Tr α} {Q : α → Prop} : (Tr.br g c t e).sat Q ↔ (c = true → t.sat Q) ∧ (c = false → e.sat Q) := by
  cases c <;> simp [Tr.sat, Tr.val]
theorem Tr.sat_bind {α β : Type} {t : Tr α} {f : α → Tr β} {Q : β → Prop} : (t.bind f).sat Q ↔ t.sat fun a => (f a).sat Q := by
  unfold Tr.sat
  rw [Tr.val_bind]
  cases t.val with
  | none => simp
  | some a => simp
theorem Tr.sat_mono {α : Type} {t : Tr α} {Q Q' : α → Prop} (h : ∀ a, Q a → Q' a) : t.sat Q → t.sat Q' := fun ⟨a, h1, h2⟩ => ⟨a, h1, h _ h2⟩

/-- A test that must hold; where 'y' names its place, it is not decided by reckoning alone. -/
def chk {α : Type} (y : Option Nat) (c : Bool) (t : Tr α) : Tr α :=
  match y with
  | some g => .br g c t .no
  | none => match c with
    | true => t
    | false => .no

theorem val_chk {α : Type} {y : Option Nat} {c : Bool} {t : Tr α} {a : α} (h : (chk y c t).val = some a) : c = true ∧ t.val = some a := by
  cases y <;> cases c <;> simp [chk, Tr.val] at h ⊢ <;> exact h

/-- A list, reckoned to its end first. -/
def forceL {α β : Type} : List α → (List α → β) → β
  | [], k => k []
  | x :: xs, k => forceL xs fun ys => k (x :: ys)

theorem forceL_eq {α β : Type} : ∀ (l : List α) (k : List α → β), forceL l k = k l
  | [], _ => rfl
  | x :: xs, k => by rw [forceL, forceL_eq xs]

def opt {α : Type} : Option α → Tr α
  | some a => .ok a
  | none => .no

theorem val_opt {α : Type} (o : Option α) : (opt o).val = o := by cases o <;> rfl

/-! ### Values that stand in the program's text -/

def absS : Value → Option AS
  | .bool b => some (.b b)
  | .int k n => some (.n k n)
  | .pointer none => some .pnil
  | .slice none 0 0 => some .slnil
  | .string s => some (.str s.data.toList)
  | .nilFunc => some .fnil
  | _ => none

def absL : List Value → Option (List AS)
  | [] => some []
  | v :: vs => match absS v with
    | some a => match absL vs with
      | some as => some (a :: as)
      | none => none
    | none => none

def absV : Value → Option AV
  | .agg cs => (absL cs.toList).map .agg
  | v => (absS v).map .s

theorem absS_rel {φ : Phi} {v : Value} {a : AS} (h : absS v = some a) : relS φ a v := by
  unfold absS at h
  split at h <;> simp at h <;> subst h <;> simp [relS]

theorem absL_rel {φ : Phi} : ∀ {vs : List Value} {as : List AS}, absL vs = some as → All2 (relS φ) as vs
  | [], as, h => by simp [absL] at h; subst h; trivial
  | v :: vs, as, h => by
    simp only [absL] at h
    cases ha : absS v with
    | none => simp [ha] at h
    | some a =>
      cases hl : absL vs with
      | none => simp [ha, hl] at h
      | some l => simp [ha, hl] at h; subst h; exact ⟨absS_rel ha, absL_rel hl⟩

theorem absV_rel {φ : Phi} {v : Value} {a : AV} (h : absV v = some a) : relA φ a v := by
  unfold absV at h
  split at h
  · rename_i cs
    cases hl : absL cs.toList with
    | none => simp [hl] at h
    | some l => simp [hl] at h; subst h; exact ⟨cs, rfl, absL_rel hl⟩
  · obtain ⟨s, hs, rfl⟩ := Option.map_eq_some_iff.1 h
    exact absS_rel hs

/-- What an operand is. ('k': a truth value that is known.) -/
def unk : TV → TV
  | .k b => .v (.s (.b b))
  | x => x

def evalT (tm : List TV) : Operand → TV
  | .tmp t => unk (tm.getD t (.tup []))
  | .const v => match absV v with
    | some a => .v a
    | none => .any
  | .global _ => .any
  | .func f => .v (.s (.fn f []))

/-! ### Types -/

def aggT (P : Program) (t : TypeId) : Option Bool :=
  match P.underlying t with
  | some (.struct _) | some (.array _ _) => some true
  | some _ => some false
  | none => none

def sizeT (P : Program) (t : TypeId) : Option Nat := (P.info? t).map (·.size)

def zeroT (P : Program) (t : TypeId) : Option (List AS) :=
  match P.info? t with
  | some i => match i.zero with
    | some z => (absV z).map AV.cells
    | none => none
  | none => none

def kindOf : AS → Option SK
  | .b false => some .b
  | .n k x => if x = 0 then some (.n k) else none
  | _ => none

def asInt : SK → AS → Option Int
  | .n k, .n k' x => if k = k' then some x else none
  | .b, .b y => some (cond y 1 0)
  | _, _ => none

/-! ### one of several equal parts, that is not told -/

def selY : Option Nat → Bool
  | some g => Nat.ble 200000 g
  | none => false

def skOf : AS → Option SK
  | .b _ => some .b
  | .n k _ => some (.n k)
  | _ => none

/-- The numbers in every 'n'-th cell from 'o' on. -/
def colI (sk : SK) (l : List AS) (n : Nat) : (len o : Nat) → Option (List Int)
  | 0, _ => some []
  | m + 1, o => match l[o]? with
    | some a => match asInt sk a with
      | some x => match colI sk l n m (o + n) with
        | some xs => some (x :: xs)
        | none => none
      | none => none
    | none => none

def selS (l : List AS) (o n len j : Nat) : Option AS :=
  match l[o]? with
  | some a => match skOf a with
    | some sk => match colI sk l n len o with
      | some xs => some (mkS sk (xs.getD j 0))
      | none => none
    | none => none
  | none => none

def selSs (l : List AS) (n len j : Nat) : (m o : Nat) → Option (List AS)
  | 0, _ => some []
  | m + 1, o => match selS l o n len j with
    | some a => match selSs l n len j m (o + 1) with
      | some r => some (a :: r)
      | none => none
    | none => none

def putCol (sk : SK) (n j : Nat) (x : Int) : (xs : List Int) → (j' o : Nat) → List AS → List AS
  | [], _, _, l => l
  | y :: ys, j', o, l => putCol sk n j x ys (j' + 1) (o + n) (l.set o (mkS sk (bif Nat.beq j j' then x else y)))

def setX (l : List AS) (o n len j : Nat) (a : AS) : Option (List AS) :=
  match l[o]? with
  | some b => match skOf b with
    | some sk => match asInt sk a with
      | some x => match colI sk l n len o with
        | some xs => some (putCol sk n j x xs 0 o l)
        | none => none
      | none => none
    | none => none
  | none => none

def setXs (n len j : Nat) : List AS → (o : Nat) → List AS → Option (List AS)
  | [], _, l => some l
  | a :: as, o, l => match setX l o n len j a with
    | some l' => setXs n len j as (o + 1) l'
    | none => none

/-- The kind of every 'n'-th cell. -/
def allK (sk : SK) (ks : List SK) (n : Nat) : (len o : Nat) → Bool
  | 0, _ => true
  | m + 1, o => match ks[o]? with
    | some k => match decide (k = sk) with
      | true => allK sk ks n m (o + n)
      | false => false
    | none => false

def kindX (ks : List SK) (n len o : Nat) : Option SK :=
  match ks[o]? with
  | some sk => match allK sk ks n len o with
    | true => some sk
    | false => none
  | none => none

def rowCellsX (ks : List SK) (g : Nat → Int) (n len j : Nat) : (m o : Nat) → Option (List AS)
  | 0, _ => some []
  | m + 1, o => match kindX ks n len o with
    | some sk => match rowCellsX ks g n len j m (o + 1) with
      | some r => some (mkS sk (g (o + j * n)) :: r)
      | none => none
    | none => none

def kindsL : List AS → Option (List SK)
  | [] => some []
  | a :: as => match kindOf a with
    | some k => match kindsL as with
      | some ks => some (k :: ks)
      | none => none
    | none => none

def kindsT (P : Program) (t : TypeId) : Option (List SK) := (zeroT P t).bind kindsL

/-- A part of an aggregate. -/
def partA (P : Program) (t : TypeId) (cs : List AS) (off : Nat) : Option AV :=
  match aggT P t with
  | some true => match sizeT P t with
    | some n => some (.agg ((cs.drop off).take n))
    | none => none
  | some false => (cs[off]?).map .s
  | none => none

/-! ### Equality -/

def eqFs (eq : TypeId → AV → AV → Option Bool) (pt : TypeId → List AS → Nat → Option AV) (xs ys : List AS) : List Field → Option Bool
  | [] => some true
  | f :: fs =>
    if f.name = "_" then eqFs eq pt xs ys fs
    else match pt f.type xs f.offset, pt f.type ys f.offset with
      | some a, some b => match eq f.type a b, eqFs eq pt xs ys fs with
        | some p, some q => some (p && q)
        | _, _ => none
      | _, _ => none

def eqIs (eq : AV → AV → Option Bool) (pt : List AS → Nat → Option AV) (xs ys : List AS) (n : Nat) : (count i : Nat) → Option Bool
  | 0, _ => some true
  | c + 1, i => match pt xs (i * n), pt ys (i * n) with
    | some a, some b => match eq a b, eqIs eq pt xs ys n c (i + 1) with
      | some p, some q => some (p && q)
      | _, _ => none
    | _, _ => none

def eqA (P : Program) : Nat → TypeId → AV → AV → Option Bool
  | 0, _, _, _ => none
  | d + 1, t, x, y =>
    match P.underlying t, x, y with
    | some .bool, .s (.b a), .s (.b b) => some (a == b)
    | some (.int _), .s (.n k a), .s (.n k' b) => if k = k' then some (a == b) else none
    | some .string, .s (.str a), .s (.str b) => some (a == b)
    | some (.pointer _), .s .pnil, .s .pnil => some true
    | some (.pointer _), .s (.p _ _), .s .pnil => some false
    | some (.pointer _), .s .pnil, .s (.p _ _) => some false
    | some (.struct fs), .agg xs, .agg ys => if P.stoodInHeld t then none else eqFs (eqA P d) (partA P) xs ys fs.toList
    | some (.array len e), .agg xs, .agg ys => match sizeT P e with
      | some n => eqIs (eqA P d e) (partA P e) xs ys n len 0
      | none => none
    | _, _, _ => none

/-! ### Operations that do not look at the memory -/

def tvb (b : Bool) : TV := .v (.s (.b b))
def tvn (k : IntKind) (n : Int) : TV := .v (.s (.n k n))

/-- A number that is one of a few: told apart. -/
def splitI (g : Nat) (k : IntKind) : (n : Nat) → (lo x : Int) → Tr TV
  | 0, _, _ => .no
  | n + 1, lo, x => .br g (x == lo) (.ok (tvn k lo)) (splitI g k n (lo + 1) x)

/-- Where the place is marked so, a number is told apart. -/
def apartN (y : Option Nat) (k : IntKind) (n : Nat) (lo x : Int) : Tr TV :=
  match y with
  | some g => match Nat.ble 100000 g with
    | true => splitI g k n lo x
    | false => .ok (tvn k x)
  | none => .ok (tvn k x)

/-- Likewise, of what is told to be one of sixteen: 0 to 15. -/
def splitTV (y : Option Nat) (a : TV) : Tr TV :=
  match y with
  | some g => match Nat.ble 100000 g with
    | true => match a with
      | .v (.s (.n k x)) => splitI g k 16 0 x
      | _ => .no
    | false => .ok a
  | none => .ok a

def plainY : Option Nat → Option Nat
  | some g => match Nat.ble 100000 g with
    | true => none
    | false => some g
  | none => none

def intOp (y : Option Nat) (op : BinOp) (k : IntKind) (a b : Int) : Tr TV :=
  match op with
  | .add => .ok (tvn k (k.wrap (a + b)))
  | .sub => .ok (tvn k (k.wrap (a - b)))
  | .mul => .ok (tvn k (k.wrap (a * b)))
  | .quo => chk y (b != 0) (.ok (tvn k (k.wrap (a.tdiv b))))
  | .rem => chk (plainY y) (b != 0) (apartN y k (2 * b.natAbs - 1) (1 - (b.natAbs : Int)) (a.tmod b))
  | .and => .ok (tvn k (bits .and k a b))
  | .or => .ok (tvn k (bits .or k a b))
  | .xor => .ok (tvn k (bits .xor k a b))
  | .andNot => .ok (tvn k (bits .andNot k a b))
  | .eql => .ok (tvb (a == b))
  | .neq => .ok (tvb (a != b))
  | .lss => .ok (tvb (decide (a < b)))
  | .leq => .ok (tvb (decide (a ≤ b)))
  | .gtr => .ok (tvb (decide (a > b)))
  | .geq => .ok (tvb (decide (a ≥ b)))
  | _ => .no

def shiftN (k : IntKind) (b : Int) : Nat := min b.toNat k.bits

def eqAny (P : Program) (neg : Bool) (t : TypeId) (x y : AV) : Option TV :=
  match x, y with
  | .agg xs, .agg ys => if P.eqGuardType P.depth t then none else
    match eqA P 10000 t (.agg xs) (.agg ys) with
    | some r => some (tvb (cond neg (!r) r))
    | none => none
  | x, y => match eqA P 10000 t x y with
    | some r => some (tvb (cond neg (!r) r))
    | none => none

def binT (P : Program) (y : Option Nat) (op : BinOp) (t : TypeId) (u v : TV) : Tr TV :=
  match u, v with
  | .v (.s (.n k a)), .v (.s (.n k' b)) =>
    match op with
    | .shl => chk y (decide (0 ≤ b)) (.ok (tvn k (k.wrap (a * 2 ^ shiftN k b))))
    | .shr => chk y (decide (0 ≤ b)) (.ok (tvn k (a.fdiv (2 ^ shiftN k b))))
    | op => if k = k' then intOp y op k a b else .no
  | .v (.s (.str a)), .v (.s (.str b)) =>
    match op with
    | .eql => .ok (tvb (a == b))
    | .neq => .ok (tvb (!(a == b)))
    | _ => .no
  | .v x, .v z =>
    match op with
    | .eql => opt (eqAny P false t x z)
    | .neq => opt (eqAny P true t x z)
    | _ => .no
  | _, _ => .no

def unT (op : UnOp) (u : TV) : Tr TV :=
  match op, u with
  | .neg, .v (.s (.n k n)) => .ok (tvn k (k.wrap (0 - n)))
  | .xor, .v (.s (.n k n)) => .ok (tvn k (bits .xor k (if k.signed then -1 else k.max) n))
  | .not, .v (.s (.b b)) => .ok (tvb (!b))
  | _, _ => .no

def pickT (x : Bool) (u v : TV) : Tr TV :=
  match u, v with
  | .v (.s (.b p)), .v (.s (.b q)) => .ok (tvb (cond x p q))
  | .v (.s (.n k p)), .v (.s (.n k' q)) => if k = k' then .ok (tvn k (cond x p q)) else .no
  | u, v => match x with
    | true => .ok u
    | false => .ok v

/-- 'vs' laid into 'l' from 'o' on. -/
def setAll (l : List AS) (o : Nat) (vs : List AS) : List AS := l.take o ++ vs ++ l.drop (o + vs.length)

def fillA (place : Nat → Option (Nat × Nat)) (cells : List AS) : List (Nat × AV) → Option (List AS)
  | [] => some cells
  | (i, v) :: rest => match place i with
    | none => none
    | some (off, size) => if v.cells.length = size ∧ off + size ≤ cells.length then fillA place (setAll cells off v.cells) rest else none

def partsT (ρ : Operand → TV) : List (Nat × Operand) → Option (List (Nat × AV))
  | [] => some []
  | (i, x) :: rest => match ρ x with
    | .v a => match partsT ρ rest with
      | some r => some ((i, a) :: r)
      | none => none
    | _ => none

def placesT (P : Program) : List Field → Option (List (Nat × Nat))
  | [] => some []
  | f :: fs => match sizeT P f.type with
    | some n => match placesT P fs with
      | some r => some ((f.offset, n) :: r)
      | none => none
    | none => none

def buildT (P : Program) (t : TypeId) (parts : List (Nat × AV)) : Option TV :=
  match zeroT P t with
  | none => none
  | some zero => match P.underlying t with
    | some (.struct fs) => match placesT P fs.toList with
      | some ps => (fillA (ps[·]?) zero parts).map fun l => .v (.agg l)
      | none => none
    | some (.array _ e) => match sizeT P e with
      | some n => (fillA (fun i => some (i * n, n)) zero parts).map fun l => .v (.agg l)
      | none => none
    | _ => none

def fieldAddrT (P : Program) (s : TypeId) (x : TV) (f : Nat) : Option TV :=
  match P.underlying s with
  | some (.struct fs) => match fs.toList[f]? with
    | some fd => match sizeT P fd.type with
      | some 0 => none
      | some _ => match x with
        | .v (.s (.p id o)) => some (.v (.s (.p id (o + fd.offset))))
        | .v (.s (.pr id wd i c)) => some (.v (.s (.pr id wd i (c + fd.offset))))
        | .v (.s (.px id wd i o n len j c)) => some (.v (.s (.px id wd i o n len j (c + fd.offset))))
        | _ => none
      | none => none
    | none => none
  | _ => none

def fieldT (P : Program) (s : TypeId) (x : TV) (f : Nat) : Option TV :=
  match P.underlying s with
  | some (.struct fs) => match fs.toList[f]? with
    | some fd => match x with
      | .v (.agg l) => (partA P fd.type l fd.offset).map .v
      | _ => none
    | none => none
  | _ => none

def within (i : Int) (n : Nat) : Bool := decide (0 ≤ i) && decide (i < (n : Int))

def indexAddrT (P : Program) (y : Option Nat) (t : TypeId) (x ix : TV) : Tr TV :=
  match ix with
  | .v (.s (.n _ i)) =>
    match P.underlying t with
    | some (.array len e) => match sizeT P e with
      | some n => match x with
        | .v (.s (.p id o)) => chk y (within i len) (.ok (.v (.s (.p id (o + i.toNat * n)))))
        | .v (.s (.pr id wd r c)) => chk y (within i len) (.ok (.v (.s (.pr id wd r (c + i.toNat * n)))))
        | _ => .no
      | none => .no
    | some (.slice e) => match sizeT P e with
      | some n => match x with
        | .v (.s (.sl id wd o len)) => if wd = n then chk y (within i len) (.ok (.v (.s (.p id (o + i.toNat * n))))) else .no
        | .v (.s (.slr id wd r len _)) => if wd = n then chk y (within i len) (.ok (.v (.s (.pr id wd (r + i.toNat) 0)))) else .no
        | .v (.s (.slc id wd r len)) => if wd = n then chk y (within i len) (.ok (.v (.s (.pr id wd (r + i.toNat) 0)))) else .no
        | .v (.s (.slq id wd r len)) => if wd = n then chk y (within i len) (.ok (.v (.s (.pr id wd (r + i.toNat) 0)))) else .no
        | .v (.s (.slw id wd len)) => if wd = n then chk y (within i len) (.ok (.v (.s (.pr id wd i.toNat 0)))) else .no
        | _ => .no
      | none => .no
    | _ => .no
  | _ => .no

def indexT (P : Program) (y : Option Nat) (t : TypeId) (x ix : TV) : Tr TV :=
  match ix with
  | .v (.s (.n _ i)) =>
    match P.underlying t with
    | some (.array len e) => match sizeT P e with
      | some n => match x with
        | .v (.agg l) => chk y (within i len) (opt ((partA P e l (i.toNat * n)).map .v))
        | _ => .no
      | none => .no
    | _ => .no
  | _ => .no

/-- The address of a part that is not told. -/
def indexAddrX (P : Program) (y : Option Nat) (t : TypeId) (x ix : TV) : Tr TV :=
  match ix with
  | .v (.s (.n _ i)) =>
    match P.underlying t with
    | some (.array len e) => match sizeT P e with
      | some n => match x with
        | .v (.s (.p id o)) => if n = 0 then .no else chk y (within i len) (.ok (.v (.s (.px id 0 0 o n len i.toNat 0))))
        | .v (.s (.pr id wd r c)) => if n = 0 ∨ wd = 0 then .no else chk y (within i len) (.ok (.v (.s (.px id wd r c n len i.toNat 0))))
        | _ => .no
      | none => .no
    | some (.slice e) => match sizeT P e with
      | some n => match x with
        | .v (.s (.sl id wd o len)) => if wd = n ∧ n ≠ 0 then chk y (within i len) (.ok (.v (.s (.px id 0 0 o n len i.toNat 0)))) else .no
        | _ => .no
      | none => .no
    | _ => .no
  | _ => .no

def indexAddrS (P : Program) (y : Option Nat) (t : TypeId) (x ix : TV) : Tr TV :=
  match selY y with
  | true => indexAddrX P y t x ix
  | false => indexAddrT P y t x ix

def partX (P : Program) (e : TypeId) (l : List AS) (n len j : Nat) : Option AV :=
  match aggT P e with
  | some true => (selSs l n len j n 0).map .agg
  | some false => (selS l 0 n len j).map .s
  | none => none

def indexX (P : Program) (y : Option Nat) (t : TypeId) (x ix : TV) : Tr TV :=
  match ix with
  | .v (.s (.n _ i)) =>
    match P.underlying t with
    | some (.array len e) => match sizeT P e with
      | some n => match x with
        | .v (.agg l) => chk y (within i len) (opt ((partX P e l n len i.toNat).map .v))
        | _ => .no
      | none => .no
    | _ => .no
  | _ => .no

def indexS (P : Program) (y : Option Nat) (t : TypeId) (x ix : TV) : Tr TV :=
  match selY y with
  | true => indexX P y t x ix
  | false => indexT P y t x ix

def intT : TV → Option Int
  | .v (.s (.n _ i)) => some i
  | _ => none

/-- The bounds of a slice expression over what has 'len' elements, of which 'cp' may be reached: from, to, the most. -/
def boundsT (lo hi mx : Option TV) (len cp : Nat) : Option (Int × Int × Int) :=
  match (match mx with | some v => intT v | none => some (cp : Int)) with
  | none => none
  | some m => match (match hi with | some v => intT v | none => (match mx with | none => some (len : Int) | some _ => none)) with
    | none => none
    | some h => match (match lo with | some v => intT v | none => some 0) with
      | none => none
      | some l => some (l, h, m)

def boundsOk (hi mx : Bool) (len cp : Nat) (l h m : Int) : Bool :=
  match mx, hi with
  | true, _ => decide (0 ≤ l) && decide (l ≤ h) && (m == h) && decide (m ≤ (cp : Int))
  | false, true => decide (0 ≤ l) && decide (l ≤ h) && decide (h ≤ (cp : Int))
  | false, false => decide (0 ≤ l) && decide (l ≤ (len : Int))

/-- A slice of all three bounds. -/
def full3 : Option TV → Option TV → Option TV → Option (Int × Int × Int)
  | some l, some h, some m => match intT l, intT h, intT m with
    | some l, some h, some m => some (l, h, m)
    | _, _, _ => none
  | _, _, _ => none

def sliceT (P : Program) (y : Option Nat) (t : TypeId) (x : TV) (lo hi mx : Option TV) : Tr TV :=
  match P.underlying t with
  | some (.array n e) => match sizeT P e with
    | some wd => match x, boundsT lo hi mx n n with
      | .v (.s (.p id o)), some (l, h, m) => chk y (boundsOk hi.isSome mx.isSome n n l h m) (.ok (.v (.s (.sl id wd (o + l.toNat * wd) (h.toNat - l.toNat)))))
      | _, _ => .no
    | none => .no
  | some (.slice e) => match sizeT P e with
    | some wd => match x with
      | .v (.s (.sl id wd' o len)) => match boundsT lo hi mx len len with
        | some (l, h, m) => if wd = wd' then chk y (boundsOk hi.isSome mx.isSome len len l h m) (.ok (.v (.s (.sl id wd (o + l.toNat * wd) (h.toNat - l.toNat))))) else .no
        | none => .no
      | .v (.s (.slr id wd' r len cp)) => match boundsT lo hi mx len cp with
        | some (l, h, m) => if wd = wd' then chk y (boundsOk hi.isSome mx.isSome len cp l h m) (.ok (.v (.s (match mx with
            | none => .slr id wd (r + l.toNat) (h.toNat - l.toNat) (cp - l.toNat)
            | some _ => .slc id wd (r + l.toNat) (h.toNat - l.toNat))))) else .no
        | none => .no
      | .v (.s (.slw id wd' len)) => match full3 lo hi mx with
        | some (l, h, m) => if wd = wd' then chk y (decide (0 ≤ l) && decide (l ≤ h) && decide (h ≤ m) && decide (m ≤ (len : Int))) (.ok (.v (.s (.slr id wd (0 + l.toNat) (h.toNat - l.toNat) (m.toNat - l.toNat))))) else .no
        | none => match boundsT lo hi mx len len with
          | some (l, h, m) => if wd = wd' then chk y (boundsOk hi.isSome mx.isSome len len l h m) (.ok (.v (.s (match mx with
              | none => .slr id wd (0 + l.toNat) (h.toNat - l.toNat) (len - l.toNat)
              | some _ => .slc id wd (0 + l.toNat) (h.toNat - l.toNat))))) else .no
          | none => .no
      | .v (.s (.slc id wd' r len)) => match boundsT lo hi mx len len with
        | some (l, h, m) => if wd = wd' then chk y (boundsOk hi.isSome mx.isSome len len l h m) (.ok (.v (.s (match mx with
            | none => .slr id wd (r + l.toNat) (h.toNat - l.toNat) (len - l.toNat)
            | some _ => .slc id wd (r + l.toNat) (h.toNat - l.toNat))))) else .no
        | none => .no
      | .v (.s (.slk id wd' len cp)) => match boundsT lo hi mx len cp, mx with
        | some (l, h, m), none => if wd = wd' then chk y (boundsOk hi.isSome mx.isSome len cp l h m && decide ((len : Int) ≤ l)) (.ok (.v (.s (.sld id wd (h.toNat - l.toNat))))) else .no
        | _, _ => .no
      | .v (.s (.slq id wd' r len)) => match boundsT lo hi mx len len with
        | some (l, h, m) => if wd = wd' then chk y (boundsOk hi.isSome mx.isSome len len l h m) (.ok (.v (.s (.slq id wd (r + l.toNat) (h.toNat - l.toNat))))) else .no
        | none => .no
      | _ => .no
    | none => .no
  | _ => .no

/-- A slice of cells as an array's address. -/
def arrPtrT (P : Program) (arr : TypeId) (x : TV) : Option TV :=
  match P.underlying arr with
  | some (.array n _) => match x with
    | .v (.s (.sl id _ o len)) => match Nat.ble n len, n with
      | true, _ + 1 => some (.v (.s (.p id o)))
      | _, _ => none
    | _ => none
  | _ => none

def extractT (x : TV) (i : Nat) : Option TV :=
  match x with
  | .tup l => (l[i]?).map .v
  | _ => none

def capsT (ρ : Operand → TV) : List Operand → Option (List (Nat × Nat))
  | [] => some []
  | x :: xs => match ρ x with
    | .v (.s (.p id o)) => match capsT ρ xs with
      | some r => some ((id, o) :: r)
      | none => none
    | _ => none

def lenT (P : Program) (t : TypeId) (x : TV) : Option TV :=
  match P.underlying t with
  | some (.slice _) => match x with
    | .v (.s (.sl _ _ _ len)) => some (tvn .i64 len)
    | .v (.s (.slr _ _ _ len _)) => some (tvn .i64 len)
    | .v (.s (.slc _ _ _ len)) => some (tvn .i64 len)
    | .v (.s (.slq _ _ _ len)) => some (tvn .i64 len)
    | .v (.s (.slw _ _ len)) => some (tvn .i64 len)
    | .v (.s (.slk _ _ len _)) => some (tvn .i64 len)
    | .v (.s .slnil) => some (tvn .i64 0)
    | _ => none
  | some (.array n _) => some (tvn .i64 n)
  | _ => none

def minT (big : Bool) : TV → List TV → Option TV
  | x, [] => some x
  | .v (.s (.n k a)), .v (.s (.n _ b)) :: rest =>
    match big with
    | true => minT big (tvn k (if b > a then b else a)) rest
    | false => minT big (tvn k (if b < a then b else a)) rest
  | _, _ => none

def convT (P : Program) (src dst : TypeId) (x : TV) : Option TV :=
  match P.underlying src, P.underlying dst, x with
  | some _, some (.int k), .v (.s (.n _ n)) => some (tvn k (k.wrap n))
  | some _, some .string, .v (.s (.str l)) => some (.v (.s (.str l)))
  | _, _, _ => none

/-! ### What a call comes to -/

inductive Spec where
  | pure (F : List TV → Tr TV)
  | read (F : List TV → AH → Tr TV)
  | eff (F : List TV → AH → Tr (TV × AH))
  | none

abbrev Specs := FuncId → Spec

def Spec.app (s : Spec) (args : List TV) (H : AH) : Tr (TV × AH) :=
  match s with
  | .pure F => (F args).bind fun r => .ok (r, H)
  | .read F => (F args H).bind fun r => .ok (r, H)
  | .eff F => F args H
  | .none => .no

inductive Cl where
  | N | R | E
  deriving DecidableEq

def clCall (Γ : Specs) (c : Call) : Cl :=
  match c.callee with
  | .value (.func f) => match Γ f with
    | .pure _ => .N
    | .read _ => .R
    | _ => .E
  | .value (.tmp _) => match Γ 3 with
    | .read _ => .R
    | _ => .E
  | .builtin .len | .builtin .min | .builtin .max => .N
  | _ => .E

def clConv (P : Program) (src dst : TypeId) : Cl :=
  match P.underlying src, P.underlying dst with
  | _, some (.slice _) => .E
  | some (.slice _), _ => .R
  | _, _ => .N

def cls (P : Program) (Γ : Specs) (op : Op) : Cl :=
  match op with
  | .move _ | .assign _ | .pick .. | .build .. | .nilCheck _ | .sliceToArrayPointer .. | .binOp .. | .unOp .. | .makeFunc .. | .slice .. | .fieldAddr .. | .field .. | .indexAddr .. | .index .. | .extract .. => .N
  | .convert src dst _ => clConv P src dst
  | .load .. => .R
  | .call c => clCall Γ c
  | _ => .E

def stepN (P : Program) (Γ : Specs) (y : Option Nat) (ρ : Operand → TV) (op : Op) : Tr TV :=
  match op with
  | .move x | .assign x => .ok (ρ x)
  | .pick c a b => match ρ c with
    | .v (.s (.b x)) => pickT x (ρ a) (ρ b)
    | _ => .no
  | .build t parts => match partsT ρ parts.toList with
    | some ps => opt (buildT P t ps)
    | none => .no
  | .nilCheck x => match ρ x with
    | .v (.s (.p id o)) => .ok (.v (.s (.p id o)))
    | .v (.s (.pr id wd i c)) => .ok (.v (.s (.pr id wd i c)))
    | .v (.s (.px id wd i o n len j c)) => .ok (.v (.s (.px id wd i o n len j c)))
    | _ => .no
  | .binOp op t a b _ => binT P y op t (ρ a) (ρ b)
  | .unOp op _ a => unT op (ρ a)
  | .convert src dst x => opt (convT P src dst (ρ x))
  | .makeFunc (.func f) first captured => match first.toList, capsT ρ captured.toList with
    | [], some l => .ok (.v (.s (.fn f l)))
    | _, _ => .no
  | .slice t x lo hi mx => sliceT P y t (ρ x) (lo.map ρ) (hi.map ρ) (mx.map ρ)
  | .sliceToArrayPointer arr x => opt (arrPtrT P arr (ρ x))
  | .fieldAddr s x f => opt (fieldAddrT P s (ρ x) f)
  | .field s x f => opt (fieldT P s (ρ x) f)
  | .indexAddr t x ix => indexAddrS P y t (ρ x) (ρ ix)
  | .index t x ix => indexS P y t (ρ x) (ρ ix)
  | .extract x i => opt (extractT (ρ x) i)
  | .call c => match c.callee with
    | .value (.func f) => match Γ f with
      | .pure F => F (c.args.toList.map ρ)
      | _ => .no
    | .builtin .len => match c.argTypes.toList, c.args.toList with
      | [t], [x] => opt (lenT P t (ρ x))
      | _, _ => .no
    | .builtin .min => match c.args.toList with
      | x :: rest => (opt (minT false (ρ x) (rest.map ρ))).bind (splitTV y)
      | [] => .no
    | .builtin .max => match c.args.toList with
      | x :: rest => opt (minT true (ρ x) (rest.map ρ))
      | [] => .no
    | _ => .no
  | _ => .no

def blk (H : AH) (id : Nat) : Option Blk := (H[id]?).join

/-- Cells that may be read. -/
def blkC (H : AH) (id : Nat) : Option Blk :=
  match blk H id with
  | some (.roc l) => some (.cells l)
  | b => b

/-- Cells of one row. -/
def rowCells (ks : List SK) (g : Nat → Int) : (n c : Nat) → Option (List AS)
  | 0, _ => some []
  | n + 1, c => match ks[c]? with
    | some sk => match rowCells ks g n (c + 1) with
      | some r => some (mkS sk (g c) :: r)
      | none => none
    | none => none

def loadT (P : Program) (H : AH) (t : TypeId) (a : TV) : Tr TV :=
  match a with
  | .v (.s (.p id o)) => match blkC H id with
    | some (.cells l) => match aggT P t with
      | some true => match sizeT P t with
        | some n => if o + n ≤ l.length ∧ n ≠ 0 then .ok (.v (.agg ((l.drop o).take n))) else .no
        | none => .no
      | some false => opt ((l[o]?).map fun a => .v (.s a))
      | none => .no
    | _ => .no
  | .v (.s (.pr id wd i c)) => match blk H id with
    | some (.rows ks _ g _) => if wd = ks.length then
        match aggT P t with
        | some true => match sizeT P t with
          | some m => if m = 0 then .no else opt ((rowCells ks (g i) m c).map fun l => .v (.agg l))
          | none => .no
        | some false => match ks[c]? with
          | some sk => .ok (.v (.s (mkS sk (g i c))))
          | none => .no
        | none => .no
      else .no
    | _ => .no
  | _ => .no

def loadX (P : Program) (H : AH) (t : TypeId) (id wd i o n len j c : Nat) : Tr TV :=
  match blkC H id with
  | some (.cells l) => if wd = 0 ∧ i = 0 then
      match aggT P t with
      | some true => match sizeT P t with
        | some m => if m = 0 then .no else opt ((selSs l n len j m (o + c)).map fun r => .v (.agg r))
        | none => .no
      | some false => opt ((selS l (o + c) n len j).map fun a => .v (.s a))
      | none => .no
    else .no
  | some (.rows ks _ g _) => if wd = ks.length ∧ wd ≠ 0 then
      match aggT P t with
      | some true => match sizeT P t with
        | some m => if m = 0 then .no else opt ((rowCellsX ks (g i) n len j m (o + c)).map fun r => .v (.agg r))
        | none => .no
      | some false => match kindX ks n len (o + c) with
        | some sk => .ok (.v (.s (mkS sk (g i (o + c + j * n)))))
        | none => .no
      | none => .no
    else .no
  | _ => .no

def loadS (P : Program) (H : AH) (t : TypeId) (a : TV) : Tr TV :=
  match a with
  | .v (.s (.px id wd i o n len j c)) => loadX P H t id wd i o n len j c
  | a => loadT P H t a

/-- A slice of numbers of one kind that is looked at: the block, where it begins, how many. -/
def viewT (x : TV) : Option (Nat × Nat × Nat × Nat) :=
  match x with
  | .v (.s (.slr id wd i len _)) => some (id, wd, i, len)
  | .v (.s (.slc id wd i len)) => some (id, wd, i, len)
  | .v (.s (.slq id wd i len)) => some (id, wd, i, len)
  | .v (.s (.slw id wd len)) => some (id, wd, 0, len)
  | _ => none

/-- A slice of bytes as a string. -/
def bytesStrT (P : Program) (H : AH) (src dst : TypeId) (x : TV) : Option TV :=
  match P.underlying src, P.underlying dst with
  | some (.slice e), some .string => match P.underlying e with
    | some (.int .u8) => match viewT x with
      | some (id, wd, i, len) => match blk H id with
        | some (.rows ks _ g _) => if wd = 1 ∧ ks = [.n .u8] then some (.v (.s (.str ((List.range len).map fun j => UInt8.ofNat (g (i + j) 0).toNat)))) else none
        | _ => none
      | none => none
    | _ => none
  | _, _ => none

/-- A call of a closure that only reads. (Where the specs name the seat's first law, which nothing calls, as one that reads, calls of closures are taken to be such.) -/
def dynR (Γ : Specs) (x : TV) (args : List TV) (H : AH) : Tr TV :=
  match x with
  | .v (.s (.fn f caps)) => match Γ f with
    | .read F => F (args ++ caps.map fun c => .v (.s (.p c.1 c.2))) H
    | .pure F => F (args ++ caps.map fun c => .v (.s (.p c.1 c.2)))
    | _ => .no
  | _ => .no

def stepR (P : Program) (Γ : Specs) (_y : Option Nat) (ρ : Operand → TV) (H : AH) (op : Op) : Tr TV :=
  match op with
  | .load t a => loadS P H t (ρ a)
  | .convert src dst x => opt (bytesStrT P H src dst (ρ x))
  | .call c => match c.callee with
    | .value (.func f) => match Γ f with
      | .read F => F (c.args.toList.map ρ) H
      | _ => .no
    | .value (.tmp t) => dynR Γ (ρ (.tmp t)) (c.args.toList.map ρ) H
    | _ => .no
  | _ => .no

/-! ### Operations that turn the memory -/

def allocA (H : AH) (l : List AS) : TV × AH := (.v (.s (.p H.length 0)), H ++ [some (.cells l)])

/-- 'g' with one cell turned. -/
def updG (g : Nat → Nat → Int) (i c : Nat) (x : Int) : Nat → Nat → Int := fun i' c' => if c' = c then (if i' = i then x else g i' c') else g i' c'

def updRow (ks : List SK) (g : Nat → Nat → Int) (i : Nat) : (c : Nat) → List AS → Option (Nat → Nat → Int)
  | _, [] => some g
  | c, a :: as => match ks[c]? with
    | some sk => match asInt sk a with
      | some x => updRow ks (updG g i c x) i (c + 1) as
      | none => none
    | none => none

def storeT (P : Program) (H : AH) (t : TypeId) (a v : TV) : Tr AH :=
  match v with
  | .v v => match sizeT P t with
    | some n => if v.cells.length = n then
        match a with
        | .v (.s (.p id o)) => match blk H id with
          | some (.cells l) => if o + n ≤ l.length ∧ n ≠ 0 then forceL (setAll l o v.cells) fun l' => .ok (H.set id (some (.cells l'))) else .no
          | _ => .no
        | .v (.s (.pr id wd i c)) => match blk H id with
          | some (.rows ks m g true) => if wd = ks.length ∧ n ≠ 0 then (match updRow ks g i c v.cells with
            | some g' => .ok (H.set id (some (.rows ks m g' true)))
            | none => .no) else .no
          | _ => .no
        | _ => .no
      else .no
    | none => .no
  | _ => .no

def updRowX (ks : List SK) (g : Nat → Nat → Int) (i n len j : Nat) : (o : Nat) → List AS → Option (Nat → Nat → Int)
  | _, [] => some g
  | o, a :: as => match kindX ks n len o with
    | some sk => match asInt sk a with
      | some x => updRowX ks (updG g i (o + j * n) x) i n len j (o + 1) as
      | none => none
    | none => none

def storeX (P : Program) (H : AH) (t : TypeId) (id wd i o n len j c : Nat) (v : TV) : Tr AH :=
  match v with
  | .v v => match sizeT P t with
    | some m => if v.cells.length = m ∧ m ≠ 0 then
        match blk H id with
        | some (.cells l) => if wd = 0 ∧ i = 0 ∧ n ≠ 0 then
            (match setXs n len j v.cells (o + c) l with
            | some l' => forceL l' fun l' => .ok (H.set id (some (.cells l')))
            | none => .no)
          else .no
        | some (.rows ks r g true) => if wd = ks.length ∧ wd ≠ 0 then
            (match updRowX ks g i n len j (o + c) v.cells with
            | some g' => .ok (H.set id (some (.rows ks r g' true)))
            | none => .no)
          else .no
        | _ => .no
      else .no
    | none => .no
  | _ => .no

def storeS (P : Program) (H : AH) (t : TypeId) (a v : TV) : Tr AH :=
  match a with
  | .v (.s (.px id wd i o n len j c)) => storeX P H t id wd i o n len j c v
  | a => storeT P H t a v

/-- Parts of a slice's literal. -/
def buildSliceT (P : Program) (H : AH) (t : TypeId) (len : Nat) (parts : List (Nat × AV)) : Option (TV × AH) :=
  match P.underlying t with
  | some (.slice e) => match sizeT P e with
    | some n => if len * n > 2 ^ 24 then none else
      if n = 0 then none else
      if len = 0 then (match kindsT P e, parts with
        | some ks, [] => if ks.length = n then some (.v (.s (.slw H.length n 0)), H ++ [some (.rows ks 0 (fun _ _ => 0) true)]) else none
        | _, _ => none) else
      match zeroT P e with
      | some zero => if zero.length ≠ n then none else match fillA (fun i => some (i * n, n)) ((List.range (len * n)).map fun i => zero.getD (i % zero.length) .pnil) parts with
        | some l => some (.v (.s (.sl H.length n 0 len)), H ++ [some (.cells l)])
        | none => none
      | none => none
    | none => none
  | _ => none

/-- A string as a slice of bytes of its own, that is not written to. -/
def strBytesT (P : Program) (H : AH) (src dst : TypeId) (x : TV) : Option (TV × AH) :=
  match P.underlying src, P.underlying dst with
  | some .string, some (.slice e) => match P.underlying e with
    | some (.int .u8) => match x with
      | .v (.s (.str l)) => some (.v (.s (.slw H.length 1 l.length)), H ++ [some (.rows [.n .u8] l.length (fun i _ => ((l.getD i 0).toNat : Int)) false)])
      | _ => none
    | _ => none
  | _, _ => none

/-- The numbers of a row that stands in cells. -/
def rowInts : List SK → List AS → Option (List Int)
  | [], _ => some []
  | k :: ks, a :: as => match asInt k a with
    | some x => match rowInts ks as with
      | some r => some (x :: r)
      | none => none
    | none => none
  | _ :: _, [] => none

def rowsOf (ks : List SK) : List AS → Nat → Option (List (List Int))
  | _, 0 => some []
  | l, m + 1 => match rowInts ks l with
    | some r => match rowsOf ks (l.drop ks.length) m with
      | some rs => some (r :: rs)
      | none => none
    | none => none

def rowsF : List (List Int) → Nat → Nat → Int
  | [r], _, c => r.getD c 0
  | rs, j, c => (rs.getD j []).getD c 0

/-- What is appended: of which block, how many rows, which. -/
def srcT (ks : List SK) (H : AH) (x : TV) : Option (Option Nat × Nat × (Nat → Nat → Int)) :=
  match x with
  | .v (.s (.sl id wd o m)) => match blkC H id with
    | some (.cells l) => if wd = ks.length then match rowsOf ks (l.drop o) m with
        | some rs => some (none, m, rowsF rs)
        | none => none
      else none
    | _ => none
  | x => match viewT x with
    | some (id, wd, i, m) => match blk H id with
      | some (.rows ks' _ g _) => if wd = ks.length ∧ ks' = ks then some (some id, m, fun j c => g (i + j) c) else none
      | _ => none
    | none => none

/-- Rows with others from 'n' on. -/
def appG (g : Nat → Nat → Int) (n : Nat) (src : Nat → Nat → Int) : Nat → Nat → Int := fun i c => if i < n then g i c else src (i - n) c

/-- Rows of which 'm' from 'a' on are others. -/
def midG (g : Nat → Nat → Int) (a m : Nat) (src : Nat → Nat → Int) : Nat → Nat → Int := fun i c => if a ≤ i ∧ i < a + m then src (i - a) c else g i c

def appendT (P : Program) (y : Option Nat) (H : AH) (sT xT : TypeId) (s x : TV) : Tr (TV × AH) :=
  match P.underlying sT, P.underlying xT with
  | some (.slice e), some (.slice _) => match kindsT P e, sizeT P e with
    | some ks, some wd => if ks.length = wd ∧ wd ≠ 0 ∧ P.bytesOf e ≤ 1024 then
        match srcT ks H x with
        | some (sid, m, src) => match s with
          | .v (.s .slnil) => chk y (decide (0 < m) && decide (m ≤ 1073741824)) (.ok (.v (.s (.slr H.length wd 0 m m)), H ++ [some (.rows ks m src true)]))
          | .v (.s (.slr id wd' i len cp)) => match blk H id with
            | some (.rows ks' n g true) => if wd' = wd ∧ ks' = ks then
                (if sid = some id then .no
                else chk y ((i == 0) && (len == n) && decide (n + m ≤ 1073741824)) (.ok (.v (.s (.slr H.length wd 0 (n + m) (n + m))), H.set id none ++ [some (.rows ks (n + m) (appG g n src) true)])))
              else .no
            | _ => .no
          | .v (.s (.slc id wd' i len)) => match blk H id with
            | some (.rows ks' _ g _) => if wd' = wd ∧ ks' = ks then
                chk y ((decide (0 < m) || (len == 0)) && decide (len + m ≤ 1073741824)) (.ok (.v (.s (.slr H.length wd 0 (len + m) (len + m))), H ++ [some (.rows ks (len + m) (appG (fun k c => g (i + k) c) len src) true)]))
              else .no
            | _ => .no
          | _ => .no
        | none => .no
      else .no
    | _, _ => .no
  | _, _ => .no

def toSlw : TV × AH → TV × AH
  | (.v (.s (.slr id wd _ len _)), H) => (.v (.s (.slw id wd len)), H)
  | r => r

/-- Rows of a block laid over others of it, from where a slice of it ends on, in place. -/
def inT (P : Program) (y : Option Nat) (H : AH) (sT xT : TypeId) (s x : TV) : Option (Tr (TV × AH)) :=
  match s with
  | .v (.s (.slr id wd' i len cp)) => match P.underlying sT, P.underlying xT with
    | some (.slice e), some (.slice _) => match kindsT P e, sizeT P e with
      | some ks, some wd => if ks.length = wd ∧ wd ≠ 0 ∧ wd' = wd then
          match srcT ks H x with
          | some (some sid, m, src) => match Nat.beq sid id with
            | true => match blk H id with
              | some (.rows ks' _ g true) => if ks' = ks then
                  some (chk y ((i == 0) && decide (len + m ≤ cp)) (.ok (.v (.s (.slk H.length wd (len + m) cp)), H.set id none ++ [some (.rows ks (len + m) (appG g len src) true)])))
                else none
              | _ => none
            | false => none
          | _ => none
        else none
      | _, _ => none
    | _, _ => none
  | _ => none

/-- An append, whose slice is one over all rows of a block, or none. -/
def appendS (P : Program) (y : Option Nat) (H : AH) (sT xT : TypeId) (s x : TV) : Tr (TV × AH) :=
  match s with
  | .v (.s .slnil) => match P.underlying sT with
    | some (.slice e) => match kindsT P e with
      | some ks => match srcT ks (H ++ [some (.rows ks 0 (fun _ _ => 0) true)]) x with
        | some (sid, m, src) => if ks.length = 0 ∨ sid = some H.length ∨ ¬ (P.underlying xT).isSome ∨ sizeT P e ≠ some ks.length ∨ P.bytesOf e > 1024 then .no else
          match P.underlying xT with
          | some (.slice _) => chk y (decide (m ≤ 1073741824)) (.ok (.v (.s (.slw (H.length + 1) ks.length m)), H ++ [none] ++ [some (.rows ks m src true)]))
          | _ => .no
        | none => .no
      | none => .no
    | _ => .no
  | .v (.s (.slw id wd _)) => match P.underlying sT, P.underlying xT with
    | some (.slice e), some (.slice _) => match kindsT P e with
      | some ks => match srcT ks H x with
        | some (sid, m, src) => match blk H id with
          | some (.rows ks' n g true) => if ks.length ≠ 0 ∧ sid ≠ some id ∧ sizeT P e = some ks.length ∧ P.bytesOf e ≤ 1024 ∧ wd = ks.length ∧ ks' = ks then
              chk y (decide (n + m ≤ 1073741824)) (.ok (.v (.s (.slw H.length ks.length (n + m))), H.set id none ++ [some (.rows ks (n + m) (appG g n src) true)]))
            else .no
          | _ => .no
        | none => .no
      | none => .no
    | _, _ => .no
  | s => match inT P y H sT xT s x with
    | some r => r
    | none => (appendT P y H sT xT s x).bind fun r => .ok (toSlw r)

def copyT (P : Program) (H : AH) (dT : TypeId) (d s : TV) : Option (TV × AH) :=
  match P.underlying dT with
  | some (.slice e) => match sizeT P e, d, s with
    | some wd, .v (.s (.sl did wd1 o dlen)), .v (.s (.sl sid wd2 so slen)) => if wd1 = wd ∧ wd2 = wd then
        match blk H did, blkC H sid with
        | some (.cells l), some (.cells ls) =>
          if o + min slen dlen * wd ≤ l.length ∧ so + min slen dlen * wd ≤ ls.length ∧ min slen dlen * wd ≠ 0 then
            forceL (setAll l o ((ls.drop so).take (min slen dlen * wd))) fun l' => some (tvn .i64 (min slen dlen : Nat), H.set did (some (.cells l')))
          else none
        | _, _ => none
      else none
    | _, _, _ => none
  | _ => none

def clearT (P : Program) (H : AH) (t : TypeId) (x : TV) : Option (TV × AH) :=
  match P.underlying t with
  | some (.slice e) => match kindsT P e, x with
    | some ks, .v (.s (.slr id wd i len _)) => match blk H id with
      | some (.rows ks' n g true) => if wd = ks.length ∧ ks' = ks then some (.tup [], H.set id (some (.rows ks n (midG g i len fun _ _ => 0) true))) else none
      | _ => none
    | some ks, .v (.s (.sld id wd _)) => match blk H id with
      | some (.rows ks' n g true) => if wd = ks.length ∧ ks' = ks then some (.tup [], H.set id (some (.rows ks n g true))) else none
      | _ => none
    | _, _ => none
  | _ => none

/-- The bytes of a literal text: from here on only read. -/
def litBytesT (P : Program) (H : AH) (src dst : TypeId) (x : TV) : Option (TV × AH) :=
  match Nat.beq src dst, P.underlying src, x with
  | true, some (.slice e), .v (.s (.sl id 1 0 len)) => match P.underlying e, blk H id with
    | some (.int .u8), some (.cells l) => if l.length = len ∧ len ≠ 0 then
        match rowsOf [.n .u8] l len with
        | some rs => some (.v (.s (.slq H.length 1 0 len)), H.set id none ++ [some (.rows [.n .u8] len (rowsF rs) false)])
        | none => none
      else none
    | _, _ => none
  | _, _, _ => none

def convE (P : Program) (H : AH) (src dst : TypeId) (x : TV) : Option (TV × AH) :=
  match x with
  | .v (.s (.str _)) => strBytesT P H src dst x
  | _ => litBytesT P H src dst x

def callT (Γ : Specs) (f : FuncId) (args : List TV) (H : AH) : Tr (TV × AH) := (Γ f).app args H

def stepE (P : Program) (Γ : Specs) (y : Option Nat) (ρ : Operand → TV) (H : AH) (op : Op) : Tr (TV × AH) :=
  match op with
  | .alloc t => match zeroT P t with
    | some l => .ok (allocA H l)
    | none => .no
  | .box _ x => match ρ x with
    | .v a => .ok (allocA H a.cells)
    | _ => .no
  | .buildSlice t len parts => match partsT ρ parts.toList with
    | some ps => opt (buildSliceT P H t len ps)
    | none => .no
  | .store t a x => (storeS P H t (ρ a) (ρ x)).bind fun H' => .ok (.tup [], H')
  | .convert src dst x => opt (convE P H src dst (ρ x))
  | .call c => match c.callee with
    | .builtin .append => match c.argTypes.toList, c.args.toList with
      | [sT, xT], [a, b] => appendS P y H sT xT (ρ a) (ρ b)
      | _, _ => .no
    | .builtin .copy => match c.argTypes.toList, c.args.toList with
      | [dT, _], [a, b] => opt (copyT P H dT (ρ a) (ρ b))
      | _, _ => .no
    | .builtin .clear => match c.argTypes.toList, c.args.toList with
      | [t], [a] => opt (clearT P H t (ρ a))
      | _, _ => .no
    | .value x => match ρ x with
      | .v (.s (.fn f caps)) => callT Γ f (c.args.toList.map ρ ++ caps.map fun c => .v (.s (.p c.1 c.2))) H
      | _ => .no
    | _ => .no
  | _ => .no

def step (P : Program) (Γ : Specs) (y : Option Nat) (ρ : Operand → TV) (H : AH) (op : Op) : Tr (TV × AH) :=
  match cls P Γ op with
  | .N => (stepN P Γ y ρ op).bind fun v => .ok (v, H)
  | .R => (stepR P Γ y ρ H op).bind fun v => .ok (v, H)
  | .E => stepE P Γ y ρ H op

end Go.AM
end

/-
  The abstract machine, part 3: what one operation that does not look at the memory comes to is what the abstract one says.
-/
section
namespace Go.AM

section
variable {P : Program} {φ : Phi}

theorem sizeT_some {t : TypeId} {n : Nat} (h : sizeT P t = some n) : ∃ i, P.info? t = some i ∧ i.size = n ∧ P.cellsOf t = n := by
  unfold sizeT at h
  cases hi : P.info? t with
  | none => simp [hi] at h
  | some i => simp [hi] at h; exact ⟨i, rfl, h, by simp [Program.cellsOf, hi, h]⟩

theorem run_size {t : TypeId} {n : Nat} (h : sizeT P t = some n) (w : World) : (sizeOf t).run P w = .ok n w := by
  obtain ⟨i, hi, _, hn⟩ := sizeT_some h
  rw [run_sizeOf w hi, hn]

theorem run_isAgg {t : TypeId} {b : Bool} (h : aggT P t = some b) (w : World) : (isAgg t).run P w = .ok b w := by
  unfold aggT at h
  cases hu : P.underlying t with
  | none => simp [hu] at h
  | some d => cases d <;> simp [hu] at h <;> subst h <;> simp [isAgg, run_underlying hu]

theorem run_part {t : TypeId} {l : List AS} {cs : Array Value} {off : Nat} {a : AV} (hl : All2 (relS φ) l cs.toList) (h : partA P t l off = some a) :
    ∃ v, relA φ a v ∧ ∀ w, (part t cs off).run P w = .ok v w := by
  unfold partA at h
  split at h
  · rename_i hag
    split at h
    · rename_i n hn
      obtain rfl := Option.some.inj h
      refine ⟨.agg (cs.extract off (off + n)), ⟨_, rfl, ?_⟩, fun w => ?_⟩
      · have := (hl.drop off).take n
        simpa [List.take_drop, Nat.add_comm] using this
      · simp [part, run_isAgg hag, run_size hn]
    · cases h
  · rename_i hag
    obtain ⟨x, hx, rfl⟩ := Option.map_eq_some_iff.1 h
    obtain ⟨v, hv, hr⟩ := hl.get hx
    refine ⟨v, hr, fun w => ?_⟩
    have hv' : cs[off]? = some v := by simpa using hv
    simp [part, run_isAgg hag, hv']
  · cases h

theorem run_eqFields {eq : TypeId → AV → AV → Option Bool} {d : Nat} {xs ys : List AS} {cs ds : Array Value} (hx : All2 (relS φ) xs cs.toList) (hy : All2 (relS φ) ys ds.toList)
    (IH : ∀ t x y r a b, eq t x y = some r → relA φ x a → relA φ y b → ∀ w, (Op.equalIn d t a b).run P w = .ok r w) :
    ∀ (fs : List Field) (r : Bool), eqFs eq (partA P) xs ys fs = some r → ∀ w, (Op.eqFields d cs ds fs).run P w = .ok r w
  | [], r, h, w => by simp [eqFs] at h; subst h; simp [Op.eqFields]
  | f :: fs, r, h, w => by
    simp only [eqFs] at h
    by_cases hn : f.name = "_"
    · simp only [hn, if_true] at h
      simp only [Op.eqFields, hn, ne_eq, not_true_eq_false, if_false]
      exact run_eqFields hx hy IH fs r h w
    · simp only [hn, if_false] at h
      split at h
      · rename_i a b ha hb
        split at h
        · rename_i p q hp hq
          obtain rfl := Option.some.inj h
          obtain ⟨va, ra, ea⟩ := run_part (P := P) hx ha
          obtain ⟨vb, rb, eb⟩ := run_part (P := P) hy hb
          have e1 := IH _ _ _ _ _ _ hp ra rb w
          have e2 := run_eqFields hx hy IH fs q hq w
          simp only [Op.eqFields, hn, ne_eq, not_false_eq_true, if_true, Sem.run_bind, ea, eb, e1, Result.andThen_ok]
          cases p
          · simp
          · simpa using e2
        · cases h
      · cases h

theorem run_eqItems {eq : AV → AV → Option Bool} {d : Nat} {e : TypeId} {n : Nat} {xs ys : List AS} {cs ds : Array Value} (hx : All2 (relS φ) xs cs.toList) (hy : All2 (relS φ) ys ds.toList)
    (IH : ∀ x y r a b, eq x y = some r → relA φ x a → relA φ y b → ∀ w, (Op.equalIn d e a b).run P w = .ok r w) :
    ∀ (c i : Nat) (r : Bool), eqIs eq (partA P e) xs ys n c i = some r → ∀ w, (Op.eqItems d e n cs ds (List.range' i c)).run P w = .ok r w
  | 0, i, r, h, w => by simp [eqIs] at h; subst h; simp [Op.eqItems]
  | c + 1, i, r, h, w => by
    simp only [eqIs] at h
    split at h
    · rename_i a b ha hb
      split at h
      · rename_i p q hp hq
        obtain rfl := Option.some.inj h
        obtain ⟨va, ra, ea⟩ := run_part (P := P) hx ha
        obtain ⟨vb, rb, eb⟩ := run_part (P := P) hy hb
        have e1 := IH _ _ _ _ _ hp ra rb w
        have e2 := run_eqItems hx hy IH c (i + 1) q hq w
        simp only [List.range'_succ, Op.eqItems, Sem.run_bind, ea, eb, e1, Result.andThen_ok]
        cases p
        · simp
        · simpa using e2
      · cases h
    · cases h

theorem run_eqA : ∀ (d : Nat) (t : TypeId) (x y : AV) (r : Bool) (a b : Value), eqA P d t x y = some r → relA φ x a → relA φ y b → ∀ w, (Op.equalIn d t a b).run P w = .ok r w
  | 0, _, _, _, _, _, _, h, _, _, _ => by simp [eqA] at h
  | d + 1, t, x, y, r, a, b, h, ha, hb, w => by
    unfold eqA at h
    split at h
    · rename_i hu
      obtain rfl := Option.some.inj h
      simp only [relA, relS] at ha hb
      subst ha; subst hb
      exact run_equalIn_bool w d t _ _ hu
    · rename_i hu
      split at h
      · rename_i hk
        obtain rfl := Option.some.inj h
        simp only [relA, relS] at ha hb
        subst ha; subst hb; subst hk
        exact run_equalIn_int w d t _ _ _ _ hu
      · cases h
    · rename_i hu
      obtain rfl := Option.some.inj h
      simp only [relA, relS] at ha hb
      obtain ⟨s, rfl, rfl⟩ := ha
      obtain ⟨s', rfl, rfl⟩ := hb
      rw [run_equalIn_string w d t _ _ hu, ByteArray.toList_eq, ByteArray.toList_eq]
    · rename_i hu
      obtain rfl := Option.some.inj h
      simp only [relA, relS] at ha hb
      subst ha; subst hb
      simp [Op.equalIn, run_underlying hu]
    · rename_i hu
      obtain rfl := Option.some.inj h
      simp only [relA, relS] at ha hb
      obtain ⟨L, _, rfl⟩ := ha
      subst hb
      simp [Op.equalIn, run_underlying hu]
    · rename_i hu
      obtain rfl := Option.some.inj h
      simp only [relA, relS] at ha hb
      obtain ⟨L, _, rfl⟩ := hb
      subst ha
      simp [Op.equalIn, run_underlying hu]
    · rename_i fs xs ys hu
      split at h
      · cases h
      · rename_i hp
        obtain ⟨cs, rfl, hx⟩ := ha
        obtain ⟨ds, rfl, hy⟩ := hb
        have hf : P.fieldsOf t = fs := by simp [Program.fieldsOf, hu]
        rw [run_equalIn_struct w d t cs ds (by rw [hf]; exact hu) (by simpa using hp), hf]
        exact run_eqFields hx hy (fun t x y r a b => run_eqA d t x y r a b) _ _ h w
    · rename_i n e xs ys hu
      split at h
      · rename_i k hk
        obtain ⟨cs, rfl, hx⟩ := ha
        obtain ⟨ds, rfl, hy⟩ := hb
        obtain ⟨i, hi, _, hc⟩ := sizeT_some hk
        rw [run_equalIn_array w d cs ds hu hi, hc, List.range_eq_range']
        exact run_eqItems hx hy (fun x y r a b => run_eqA d e x y r a b) _ _ _ h w
      · cases h
    · cases h

theorem val_ok {α : Type} {a b : α} (h : (Tr.ok a).val = some b) : a = b := by simpa [Tr.val] using h

theorem splitI_val {g : Nat} {k : IntKind} {x : Int} {tv : TV} : ∀ {n : Nat} {lo : Int}, (splitI g k n lo x).val = some tv → tv = tvn k x
  | 0, _, h => by simp [splitI, Tr.val] at h
  | n + 1, lo, h => by
    simp only [splitI, Tr.val] at h
    split at h
    · rename_i e
      have e : x = lo := by simpa using e
      have := val_ok h
      rw [← this, e]
    · exact splitI_val h

theorem apartN_val {y : Option Nat} {k : IntKind} {n : Nat} {lo x : Int} {tv : TV} (h : (apartN y k n lo x).val = some tv) : tv = tvn k x := by
  unfold apartN at h
  split at h
  · split at h
    · exact splitI_val h
    · exact (val_ok h).symm
  · exact (val_ok h).symm

theorem splitTV_val {y : Option Nat} {a tv : TV} (h : (splitTV y a).val = some tv) : tv = a := by
  unfold splitTV at h
  split at h
  · split at h
    · split at h
      · exact splitI_val h
      · simp [Tr.val] at h
    · exact (val_ok h).symm
  · exact (val_ok h).symm

theorem run_intOp {y : Option Nat} {op : BinOp} {k : IntKind} {a b : Int} {tv : TV} (t : TypeId) (h : (intOp y op k a b).val = some tv) (hs : op ≠ .shl) (hr : op ≠ .shr) :
    ∃ v, relT φ tv v ∧ ∀ w, (binOp op t (.int k a) (.int k b)).run P w = .ok v w := by
  cases op <;> simp only [intOp] at h
  case shl => exact (hs rfl).elim
  case shr => exact (hr rfl).elim
  case quo =>
    obtain ⟨hc, h⟩ := val_chk h
    obtain rfl := val_ok h
    have hb : b ≠ 0 := by simpa using hc
    exact ⟨_, rfl, fun w => by simp [binOp, Op.intDiv, hb]⟩
  case rem =>
    obtain ⟨hc, h⟩ := val_chk h
    obtain rfl := apartN_val h
    have hb : b ≠ 0 := by simpa using hc
    exact ⟨_, rfl, fun w => by simp [binOp, Op.intDiv, hb]⟩
  case and => obtain rfl := val_ok h; exact ⟨_, rfl, fun w => by simp [binOp, intBits_and]⟩
  case or => obtain rfl := val_ok h; exact ⟨_, rfl, fun w => by simp [binOp, intBits_or]⟩
  case xor => obtain rfl := val_ok h; exact ⟨_, rfl, fun w => by simp [binOp, intBits_xor]⟩
  case andNot => obtain rfl := val_ok h; exact ⟨_, rfl, fun w => by simp [binOp, intBits_andNot]⟩
  all_goals (obtain rfl := val_ok h; exact ⟨_, rfl, fun w => by simp [binOp, Op.intArith, Op.intCmp]⟩)

/-- Which values 'eqA' holds against each other. -/
inductive Pair : Value → Value → Prop where
  | b (p q : Bool) : Pair (.bool p) (.bool q)
  | n (k k' : IntKind) (p q : Int) : Pair (.int k p) (.int k' q)
  | s (p q : ByteArray) : Pair (.string p) (.string q)
  | p (p q : Option Addr) : Pair (.pointer p) (.pointer q)
  | agg (p q : Array Value) : Pair (.agg p) (.agg q)

theorem eqA_pair {d : Nat} {t : TypeId} {x y : AV} {r : Bool} {a b : Value} (h : eqA P d t x y = some r) (ha : relA φ x a) (hb : relA φ y b) : Pair a b := by
  cases d with
  | zero => simp [eqA] at h
  | succ d =>
    unfold eqA at h
    split at h
    · simp only [relA, relS] at ha hb; subst ha; subst hb; exact .b _ _
    · simp only [relA, relS] at ha hb; subst ha; subst hb; exact .n _ _ _ _
    · simp only [relA, relS] at ha hb; obtain ⟨s, rfl, rfl⟩ := ha; obtain ⟨s', rfl, rfl⟩ := hb; exact .s _ _
    · simp only [relA, relS] at ha hb; subst ha; subst hb; exact .p _ _
    · simp only [relA, relS] at ha hb; obtain ⟨L, _, rfl⟩ := ha; subst hb; exact .p _ _
    · simp only [relA, relS] at ha hb; obtain ⟨L, _, rfl⟩ := hb; subst ha; exact .p _ _
    · obtain ⟨cs, rfl, _⟩ := ha; obtain ⟨ds, rfl, _⟩ := hb; exact .agg _ _
    · obtain ⟨cs, rfl, _⟩ := ha; obtain ⟨ds, rfl, _⟩ := hb; exact .agg _ _
    · cases h

theorem agg_of_rel {x : AV} {cs : Array Value} (h : relA φ x (.agg cs)) : ∃ l, x = .agg l := by
  cases x with
  | agg l => exact ⟨l, rfl⟩
  | s s => exact absurd (relS.oneCell h) (by simp [Value.oneCell'])

theorem run_eqAny {neg : Bool} {t : TypeId} {x y : AV} {tv : TV} {a b : Value} (X Y : Operand) (h : eqAny P neg t x y = some tv) (ha : relA φ x a) (hb : relA φ y b)
    (hi : ∀ k k' m n, ¬ (a = .int k m ∧ b = .int k' n)) (hst : ∀ m n, ¬ (a = .string m ∧ b = .string n)) (op : BinOp) (hop : op = if neg then .neq else .eql) :
    ∃ v, relT φ tv v ∧ ∀ w, ((do eqGuard op t X Y a b; binOp op t a b) : Sem Value).run P w = .ok v w := by
  -- what the two operands' comparison is
  have key : ∀ r, eqA P 10000 t x y = some r → tv = tvb (cond neg (!r) r) → (∀ w, (eqGuard op t X Y a b).run P w = .ok () w) →
      ∃ v, relT φ tv v ∧ ∀ w, ((do eqGuard op t X Y a b; binOp op t a b) : Sem Value).run P w = .ok v w := by
    intro r hr htv hg
    have he : ∀ w, (Op.equal t a b).run P w = .ok r w := run_eqA 10000 t x y r a b hr ha hb
    subst htv
    refine ⟨.bool (cond neg (!r) r), rfl, fun w => ?_⟩
    rw [Sem.run_bind, hg w, Result.andThen_ok]
    cases eqA_pair hr ha hb with
    | n k k' p q => exact absurd ⟨rfl, rfl⟩ (hi k k' p q)
    | s p q => exact absurd ⟨rfl, rfl⟩ (hst p q)
    | b p q => cases neg <;> simp only [Bool.false_eq_true, if_false, if_true] at hop <;> subst hop <;> simp [binOp, he]
    | p p q => cases neg <;> simp only [Bool.false_eq_true, if_false, if_true] at hop <;> subst hop <;> simp [binOp, he]
    | agg p q => cases neg <;> simp only [Bool.false_eq_true, if_false, if_true] at hop <;> subst hop <;> simp [binOp, he]
  unfold eqAny at h
  split at h
  · rename_i xs ys
    by_cases hg : P.eqGuardType P.depth t = true
    · simp [hg] at h
    · simp only [hg, Bool.false_eq_true, if_false] at h
      cases hr : eqA P 10000 t (.agg xs) (.agg ys) with
      | none => simp [hr] at h
      | some r =>
        simp only [hr, Option.some.injEq] at h
        obtain ⟨cs, rfl, _⟩ := ha
        obtain ⟨ds, rfl, _⟩ := hb
        exact key r hr h.symm fun w => run_eqGuard_agg w _ t X Y cs ds (by simpa using hg)
  · rename_i hna
    cases hr : eqA P 10000 t x y with
    | none => simp [hr] at h
    | some r =>
      simp only [hr, Option.some.injEq] at h
      refine key r hr h.symm fun w => ?_
      cases eqA_pair hr ha hb with
      | n k k' p q => rw [eqGuard_at_int]; rfl
      | s p q => rw [eqGuard_at_string]; rfl
      | b p q => rw [eqGuard_at_bool]; rfl
      | p p q => rw [eqGuard_at_pointer]; rfl
      | agg p q =>
        obtain ⟨l, rfl⟩ := agg_of_rel ha
        obtain ⟨l', rfl⟩ := agg_of_rel hb
        exact (hna l l' rfl rfl).elim

theorem int_of_rel {x : AV} {k : IntKind} {n : Int} (h : relA φ x (.int k n)) : x = .s (.n k n) := by
  cases x with
  | agg l => obtain ⟨_, e, _⟩ := h; cases e
  | s s =>
    cases s <;> simp only [relA, relS] at h
    case n => cases h; rfl
    case sl => rcases h with ⟨_, _, e⟩ | ⟨_, _, _, _, e⟩ <;> cases e
    case slr => rcases h with ⟨_, _, _, e⟩ | ⟨_, _, _, _, _, _, _, e⟩ <;> cases e
    case slc => rcases h with ⟨_, _, e⟩ | ⟨_, _, _, _, e⟩ <;> cases e
    case slq => rcases h with ⟨_, _, e⟩ | ⟨_, _, _, _, _, e⟩ <;> cases e
    case p => obtain ⟨_, _, e⟩ := h; cases e
    case pr => obtain ⟨_, _, _, e⟩ := h; cases e
    case px => obtain ⟨_, _, _, _, e⟩ := h; cases e
    case slw => rcases h with ⟨_, _, _, ⟨_, _, e⟩ | ⟨_, _, _, e⟩⟩ <;> cases e
    case slk => rcases h with ⟨_, _, _, _, ⟨_, _, e⟩ | ⟨_, _, _, e⟩⟩ <;> cases e
    case sld => rcases h with ⟨_, _, ⟨_, _, e⟩ | ⟨_, _, _, _, _, e⟩⟩ <;> cases e
    case opq => obtain ⟨_, _, _, _, e, _⟩ := h; exact (e _ _ rfl).elim
    case str => obtain ⟨_, e, _⟩ := h; cases e
    case fn => obtain ⟨_, e, _⟩ := h; cases e
    all_goals cases h

theorem string_of_rel {x : AV} {s : ByteArray} (h : relA φ x (.string s)) : x = .s (.str s.data.toList) := by
  cases x with
  | agg l => obtain ⟨_, e, _⟩ := h; cases e
  | s s =>
    cases s <;> simp only [relA, relS] at h
    case str => obtain ⟨_, e, e'⟩ := h; cases e; rw [e']
    case sl => rcases h with ⟨_, _, e⟩ | ⟨_, _, _, _, e⟩ <;> cases e
    case slr => rcases h with ⟨_, _, _, e⟩ | ⟨_, _, _, _, _, _, _, e⟩ <;> cases e
    case slc => rcases h with ⟨_, _, e⟩ | ⟨_, _, _, _, e⟩ <;> cases e
    case slq => rcases h with ⟨_, _, e⟩ | ⟨_, _, _, _, _, e⟩ <;> cases e
    case p => obtain ⟨_, _, e⟩ := h; cases e
    case pr => obtain ⟨_, _, _, e⟩ := h; cases e
    case px => obtain ⟨_, _, _, _, e⟩ := h; cases e
    case slw => rcases h with ⟨_, _, _, ⟨_, _, e⟩ | ⟨_, _, _, e⟩⟩ <;> cases e
    case slk => rcases h with ⟨_, _, _, _, ⟨_, _, e⟩ | ⟨_, _, _, e⟩⟩ <;> cases e
    case sld => rcases h with ⟨_, _, ⟨_, _, e⟩ | ⟨_, _, _, _, _, e⟩⟩ <;> cases e
    case opq => obtain ⟨_, _, _, _, _, e⟩ := h; exact (e _ rfl).elim
    case fn => obtain ⟨_, e, _⟩ := h; cases e
    all_goals cases h

theorem run_binT {y : Option Nat} {op : BinOp} {t : TypeId} {u z tv : TV} {a b : Value} (X Y : Operand) (h : (binT P y op t u z).val = some tv) (ha : relT φ u a) (hb : relT φ z b) :
    ∃ v, relT φ tv v ∧ ∀ w, ((do eqGuard op t X Y a b; binOp op t a b) : Sem Value).run P w = .ok v w := by
  unfold binT at h
  split at h
  · rename_i k m k' n
    simp only [relT, relA, relS] at ha hb
    subst ha; subst hb
    simp only [eqGuard_at_int]
    split at h
    · obtain ⟨hc, h⟩ := val_chk h
      obtain rfl := val_ok h
      have hc' : ¬ n < 0 := by simpa using hc
      exact ⟨_, rfl, fun w => by simp [binOp, Op.shift, hc', shiftN]⟩
    · obtain ⟨hc, h⟩ := val_chk h
      obtain rfl := val_ok h
      have hc' : ¬ n < 0 := by simpa using hc
      exact ⟨_, rfl, fun w => by simp [binOp, Op.shift, hc', shiftN]⟩
    · rename_i hs hr
      split at h
      · rename_i hk
        subst hk
        obtain ⟨v, hv, hrun⟩ := run_intOp (P := P) (φ := φ) t h (fun e => hs e) (fun e => hr e)
        exact ⟨v, hv, fun w => by simpa using hrun w⟩
      · simp [Tr.val] at h
  · simp only [relT, relA, relS] at ha hb
    obtain ⟨s, rfl, rfl⟩ := ha
    obtain ⟨s', rfl, rfl⟩ := hb
    simp only [eqGuard_at_string]
    split at h
    · obtain rfl := val_ok h
      exact ⟨_, rfl, fun w => by simp [binOp, Op.stringOp, ByteArray.toList_eq]⟩
    · obtain rfl := val_ok h
      exact ⟨_, rfl, fun w => by simp [binOp, Op.stringOp, ByteArray.toList_eq]⟩
    · simp [Tr.val] at h
  · rename_i x z hni hns
    have hi : ∀ k k' m n, ¬ (a = .int k m ∧ b = .int k' n) := by
      rintro k k' m n ⟨rfl, rfl⟩
      exact hni k m k' n (by rw [int_of_rel ha]) (by rw [int_of_rel hb])
    have hst : ∀ m n, ¬ (a = .string m ∧ b = .string n) := by
      rintro m n ⟨rfl, rfl⟩
      exact hns _ _ (by rw [string_of_rel ha]) (by rw [string_of_rel hb])
    split at h
    · rw [val_opt] at h
      exact run_eqAny X Y h ha hb hi hst .eql rfl
    · rw [val_opt] at h
      exact run_eqAny X Y h ha hb hi hst .neq rfl
    · simp [Tr.val] at h
  · simp [Tr.val] at h

theorem run_unT {op : UnOp} {u tv : TV} {a : Value} (h : (unT op u).val = some tv) (ha : relT φ u a) : ∃ v, relT φ tv v ∧ ∀ w, (Op.unary op a).run P w = .ok v w := by
  unfold unT at h
  split at h
  · obtain rfl := val_ok h
    simp only [relT, relA, relS] at ha
    subst ha
    exact ⟨_, rfl, fun w => by simp [Op.unary, Op.intArith]⟩
  · obtain rfl := val_ok h
    simp only [relT, relA, relS] at ha
    subst ha
    exact ⟨_, rfl, fun w => by simp only [Op.unary]; rfl⟩
  · obtain rfl := val_ok h
    simp only [relT, relA, relS] at ha
    subst ha
    exact ⟨_, rfl, fun w => by simp [Op.unary]⟩
  · simp [Tr.val] at h

theorem run_pickT {x : Bool} {u z tv : TV} {a b : Value} (h : (pickT x u z).val = some tv) (ha : relT φ u a) (hb : relT φ z b) : relT φ tv (if x then a else b) := by
  unfold pickT at h
  split at h
  · obtain rfl := val_ok h
    simp only [relT, relA, relS] at ha hb
    subst ha; subst hb
    cases x <;> rfl
  · split at h
    · rename_i hk
      subst hk
      obtain rfl := val_ok h
      simp only [relT, relA, relS] at ha hb
      subst ha; subst hb
      cases x <;> rfl
    · simp [Tr.val] at h
  · split at h
    · obtain rfl := val_ok h; exact ha
    · obtain rfl := val_ok h; exact hb
end
end Go.AM
end
