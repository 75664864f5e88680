/-
  The abstract machine, part 1: abstract values and blocks, what they stand for, and how what stands for them is kept.
-/
import Derived.Calls
import Derived.Orders
import Derived.Laws.Cells
import Derived.Laws.World
namespace Go.AM

/-- Kinds of a cell of a row. -/
inductive SK where
  | b
  | n (k : IntKind)
  deriving DecidableEq

/-- What one cell holds. 'p': a cell of a block of cells; 'pr': a cell of a row; 'px': of 'len' equal parts of 'n' cells from the cell 'o' on (of the row 'i'; 'wd' 0: of a block of cells) the cell 'c' of the part 'j'; 'sl', 'slr': slices over such ('cp': so many at least may be reached by slicing); 'slc': a slice over rows whose capacity is its length; 'slq': one of which no capacity is known; 'slw': a slice over all rows of a block, 'n' of them. 'slk': a slice over all 'n' rows of a block, of which 'cp' at least may be reached; 'sld': one over what lies behind a block's rows. 'opq': a value that is not looked at. -/
inductive AS where
  | b (x : Bool)
  | n (k : IntKind) (x : Int)
  | p (id o : Nat)
  | pr (id wd i c : Nat)
  | px (id wd i o n len j c : Nat)
  | pnil
  | sl (id wd o len : Nat)
  | slr (id wd i len cp : Nat)
  | slc (id wd i len : Nat)
  | slq (id wd i len : Nat)
  | slw (id wd n : Nat)
  | slk (id wd n cp : Nat)
  | sld (id wd len : Nat)
  | opq (id : Nat)
  | slnil
  | str (l : List UInt8)
  | fn (f : FuncId) (caps : List (Nat × Nat))
  | fnil

inductive AV where
  | s (a : AS)
  | agg (l : List AS)

inductive TV where
  | v (a : AV)
  | tup (l : List AV)
  | any
  | k (b : Bool)

/-- A block: cells ('roc': that are only read); or 'n' rows of the kinds 'ks', row 'i' has 'g i c' in its cell 'c'; 'own': nobody else has it. -/
inductive Blk where
  | cells (l : List AS)
  | roc (l : List AS)
  | rows (ks : List SK) (n : Nat) (g : Nat → Nat → Int) (own : Bool)

def Blk.mut : Blk → Bool
  | .cells _ => true
  | .roc _ => false
  | .rows _ _ _ own => own

abbrev AH := List (Option Blk)

structure ASt where
  tm : List TV
  hp : AH

/-- What else is known of a place: a value. -/
structure LocX where
  val : Value

def LocX.nil : LocX := ⟨.tuple #[]⟩

/-- Where a block lies: block, first cell, how many cells, how many rows. -/
structure Loc where
  b : Nat
  base : Nat
  sz : Nat
  n : Nat
  x : LocX

/-- The blocks of memory in which a block lies. -/
def Blk.foot (_ : Blk) (L : Loc) (b : Nat) : Prop := 0 < L.sz ∧ L.b = b

abbrev Phi := List Loc

def All2 {α β : Type} (R : α → β → Prop) : List α → List β → Prop
  | [], [] => True
  | a :: as, b :: bs => R a b ∧ All2 R as bs
  | _, _ => False

section All2
variable {α β : Type} {R S : α → β → Prop}

theorem All2.length_eq : ∀ {l : List α} {m : List β}, All2 R l m → l.length = m.length
  | [], [], _ => rfl
  | _ :: _, _ :: _, h => by simp [h.2.length_eq]
  | [], _ :: _, h => h.elim
  | _ :: _, [], h => h.elim

theorem All2.mono (hr : ∀ a b, R a b → S a b) : ∀ {l : List α} {m : List β}, All2 R l m → All2 S l m
  | [], [], _ => trivial
  | _ :: _, _ :: _, h => ⟨hr _ _ h.1, h.2.mono hr⟩
  | [], _ :: _, h => h.elim
  | _ :: _, [], h => h.elim

theorem All2.get : ∀ {l : List α} {m : List β} (_ : All2 R l m) {i : Nat} {a : α}, l[i]? = some a → ∃ b, m[i]? = some b ∧ R a b
  | [], [], _, i, a, hi => by simp at hi
  | x :: xs, y :: ys, h, 0, a, hi => by simp at hi; exact ⟨y, rfl, hi ▸ h.1⟩
  | x :: xs, y :: ys, h, i + 1, a, hi => by simpa using h.2.get (i := i) (by simpa using hi)
  | [], _ :: _, h, _, _, _ => h.elim
  | _ :: _, [], h, _, _, _ => h.elim

theorem All2.get_r : ∀ {l : List α} {m : List β} (_ : All2 R l m) {i : Nat} {b : β}, m[i]? = some b → ∃ a, l[i]? = some a ∧ R a b
  | [], [], _, i, a, hi => by simp at hi
  | x :: xs, y :: ys, h, 0, a, hi => by simp at hi; exact ⟨x, rfl, hi ▸ h.1⟩
  | x :: xs, y :: ys, h, i + 1, a, hi => by simpa using h.2.get_r (i := i) (by simpa using hi)
  | [], _ :: _, h, _, _, _ => h.elim
  | _ :: _, [], h, _, _, _ => h.elim

theorem All2.of_get : ∀ {l : List α} {m : List β}, l.length = m.length → (∀ (i : Nat) a b, l[i]? = some a → m[i]? = some b → R a b) → All2 R l m
  | [], [], _, _ => trivial
  | x :: xs, y :: ys, hl, h => ⟨h 0 x y rfl rfl, All2.of_get (by simpa using hl) (fun i a b ha hb => h (i + 1) a b (by simpa using ha) (by simpa using hb))⟩
  | [], _ :: _, hl, _ => by simp at hl
  | _ :: _, [], hl, _ => by simp at hl

theorem All2.set : ∀ {l : List α} {m : List β} (_ : All2 R l m) (i : Nat) {a : α} {b : β}, R a b → All2 R (l.set i a) (m.set i b)
  | [], [], _, _, _, _, _ => trivial
  | _ :: _, _ :: _, h, 0, _, _, hr => ⟨hr, h.2⟩
  | _ :: _, _ :: _, h, i + 1, _, _, hr => ⟨h.1, h.2.set i hr⟩
  | [], _ :: _, h, _, _, _, _ => h.elim
  | _ :: _, [], h, _, _, _, _ => h.elim

theorem All2.append : ∀ {l : List α} {m : List β} {l' : List α} {m' : List β}, All2 R l m → All2 R l' m' → All2 R (l ++ l') (m ++ m')
  | [], [], _, _, _, h' => h'
  | _ :: _, _ :: _, _, _, h, h' => ⟨h.1, h.2.append h'⟩
  | [], _ :: _, _, _, h, _ => h.elim
  | _ :: _, [], _, _, h, _ => h.elim

theorem All2.take : ∀ {l : List α} {m : List β} (_ : All2 R l m) (n : Nat), All2 R (l.take n) (m.take n)
  | [], [], _, _ => by simp [All2]
  | _ :: _, _ :: _, _, 0 => by simp [All2]
  | _ :: _, _ :: _, h, n + 1 => ⟨h.1, h.2.take n⟩
  | [], _ :: _, h, _ => h.elim
  | _ :: _, [], h, _ => h.elim

theorem All2.drop : ∀ {l : List α} {m : List β} (_ : All2 R l m) (n : Nat), All2 R (l.drop n) (m.drop n)
  | [], [], _, _ => by simp [All2]
  | _ :: _, _ :: _, h, 0 => h
  | _ :: _, _ :: _, h, n + 1 => h.2.drop n
  | [], _ :: _, h, _ => h.elim
  | _ :: _, [], h, _ => h.elim

theorem All2.map_l {γ : Type} {f : γ → α} {T : γ → β → Prop} (hf : ∀ c b, T c b → R (f c) b) : ∀ {l : List γ} {m : List β}, All2 T l m → All2 R (l.map f) m
  | [], [], _ => trivial
  | _ :: _, _ :: _, h => ⟨hf _ _ h.1, h.2.map_l hf⟩
  | [], _ :: _, h => h.elim
  | _ :: _, [], h => h.elim

theorem All2.map2 {γ δ : Type} {f : γ → α} {g : δ → β} {T : γ → δ → Prop} (hf : ∀ c d, T c d → R (f c) (g d)) : ∀ {l : List γ} {m : List δ}, All2 T l m → All2 R (l.map f) (m.map g)
  | [], [], _ => trivial
  | _ :: _, _ :: _, h => ⟨hf _ _ h.1, h.2.map2 hf⟩
  | [], _ :: _, h => h.elim
  | _ :: _, [], h => h.elim

theorem All2.replicate {a : α} {b : β} (h : R a b) : ∀ n, All2 R (List.replicate n a) (List.replicate n b)
  | 0 => trivial
  | n + 1 => ⟨h, All2.replicate h n⟩
end All2

def mkS : SK → Int → AS
  | .b, x => .b (x != 0)
  | .n k, x => .n k x

def relS (φ : Phi) : AS → Value → Prop
  | .b x, v => v = .bool x
  | .n k x, v => v = .int k x
  | .p id o, v => ∃ L, φ[id]? = some L ∧ v = .pointer (some ⟨L.b, L.base + o, none⟩)
  | .pr id wd i c, v => ∃ L, φ[id]? = some L ∧ i < L.n ∧ v = .pointer (some ⟨L.b, L.base + (i * wd + c), none⟩)
  | .px id wd i o n len j c, v => ∃ L, φ[id]? = some L ∧ j < len ∧ (wd = 0 ∨ i < L.n) ∧ v = .pointer (some ⟨L.b, L.base + (i * wd + (o + j * n + c)), none⟩)
  | .pnil, v => v = .pointer none
  | .sl id _ o len, v => (len = 0 ∧ ∃ a, v = .slice a 0 0) ∨ ∃ L cap, φ[id]? = some L ∧ len ≤ cap ∧ v = .slice (some ⟨L.b, L.base + o, none⟩) len cap
  | .slr id wd i len cp, v => (len = 0 ∧ cp = 0 ∧ ∃ a, v = .slice a 0 0) ∨ ∃ L cap, φ[id]? = some L ∧ len ≤ cp ∧ cp ≤ cap ∧ i + cp ≤ L.n ∧ (i + cap) * wd ≤ L.sz ∧ v = .slice (some ⟨L.b, L.base + i * wd, none⟩) len cap
  | .slc id wd i len, v => (len = 0 ∧ ∃ a, v = .slice a 0 0) ∨ ∃ L, φ[id]? = some L ∧ i + len ≤ L.n ∧ (i + len) * wd ≤ L.sz ∧ v = .slice (some ⟨L.b, L.base + i * wd, none⟩) len len
  | .slq id wd i len, v => (len = 0 ∧ ∃ a, v = .slice a 0 0) ∨ ∃ L cap, φ[id]? = some L ∧ len ≤ cap ∧ i + len ≤ L.n ∧ v = .slice (some ⟨L.b, L.base + i * wd, none⟩) len cap
  | .slw id wd n, v => ∃ L, φ[id]? = some L ∧ L.n = n ∧ ((n = 0 ∧ ∃ a, v = .slice a 0 0) ∨ ∃ cap, n ≤ cap ∧ cap * wd ≤ L.sz ∧ v = .slice (some ⟨L.b, L.base, none⟩) n cap)
  | .slk id wd n cp, v => ∃ L, φ[id]? = some L ∧ L.n = n ∧ n ≤ cp ∧ ((cp = 0 ∧ ∃ a, v = .slice a 0 0) ∨ ∃ cap, cp ≤ cap ∧ cap * wd ≤ L.sz ∧ v = .slice (some ⟨L.b, L.base, none⟩) n cap)
  | .sld id wd len, v => ∃ L, φ[id]? = some L ∧ ((len = 0 ∧ ∃ a, v = .slice a 0 0) ∨ ∃ o cap, L.n ≤ o ∧ len ≤ cap ∧ (o + cap) * wd ≤ L.sz ∧ v = .slice (some ⟨L.b, L.base + o * wd, none⟩) len cap)
  | .opq id, v => ∃ L, φ[id]? = some L ∧ v = L.x.val ∧ v.oneCell' = true ∧ (∀ k n, v ≠ .int k n) ∧ ∀ s, v ≠ .string s
  | .slnil, v => v = .slice none 0 0
  | .str l, v => ∃ s : ByteArray, v = .string s ∧ s.data.toList = l
  | .fn f caps, v => ∃ cs : List Value, v = .func (.func f) #[] cs.toArray ∧ All2 (fun (c : Nat × Nat) u => ∃ L, φ[c.1]? = some L ∧ u = .pointer (some ⟨L.b, L.base + c.2, none⟩)) caps cs
  | .fnil, v => v = .nilFunc

def relA (φ : Phi) : AV → Value → Prop
  | .s a, v => relS φ a v
  | .agg l, v => ∃ cs : Array Value, v = .agg cs ∧ All2 (relS φ) l cs.toList

def relT (φ : Phi) : TV → Value → Prop
  | .v a, v => relA φ a v
  | .tup l, v => ∃ vs : Array Value, v = .tuple vs ∧ All2 (relA φ) l vs.toList
  | .any, _ => True
  | .k b, v => v = .bool b

theorem slw_of_slk {φ : Phi} {id wd n cp : Nat} {v : Value} (h : relS φ (.slk id wd n cp) v) : relS φ (.slw id wd n) v := by
  obtain ⟨L, hL, hn, hle, h⟩ := h
  rcases h with ⟨h0, a, rfl⟩ | ⟨cap, h1, h2, rfl⟩
  · exact ⟨L, hL, hn, .inl ⟨by omega, a, rfl⟩⟩
  · exact ⟨L, hL, hn, .inr ⟨cap, by omega, h2, rfl⟩⟩

theorem slr_of_slw {φ : Phi} {id wd n : Nat} {v : Value} (h : relS φ (.slw id wd n) v) : relS φ (.slr id wd 0 n n) v := by
  obtain ⟨L, hL, hn, h⟩ := h
  rcases h with ⟨h0, a, rfl⟩ | ⟨cap, h1, h2, rfl⟩
  · exact .inl ⟨h0, h0, a, rfl⟩
  · exact .inr ⟨L, cap, hL, Nat.le_refl _, h1, by omega, by simpa using h2, by simp⟩

/-- A cell's value is one that a store takes. -/
theorem relS.oneCell {φ : Phi} {a : AS} {v : Value} (h : relS φ a v) : v.oneCell' = true := by
  cases a <;> simp only [relS] at h
  case b => subst h; rfl
  case n => subst h; rfl
  case p => obtain ⟨_, _, rfl⟩ := h; rfl
  case pr => obtain ⟨_, _, _, rfl⟩ := h; rfl
  case px => obtain ⟨_, _, _, _, rfl⟩ := h; rfl
  case pnil => subst h; rfl
  case sl => rcases h with ⟨_, _, rfl⟩ | ⟨_, _, _, _, rfl⟩ <;> rfl
  case slr => rcases h with ⟨_, _, _, rfl⟩ | ⟨_, _, _, _, _, _, _, rfl⟩ <;> rfl
  case slc => rcases h with ⟨_, _, rfl⟩ | ⟨_, _, _, _, rfl⟩ <;> rfl
  case slq => rcases h with ⟨_, _, rfl⟩ | ⟨_, _, _, _, _, rfl⟩ <;> rfl
  case slw => rcases h with ⟨_, _, _, ⟨_, _, rfl⟩ | ⟨_, _, _, rfl⟩⟩ <;> rfl
  case slk => rcases h with ⟨_, _, _, _, ⟨_, _, rfl⟩ | ⟨_, _, _, rfl⟩⟩ <;> rfl
  case sld => rcases h with ⟨_, _, ⟨_, _, rfl⟩ | ⟨_, _, _, _, _, rfl⟩⟩ <;> rfl
  case opq => obtain ⟨_, _, _, h, _⟩ := h; exact h
  case slnil => subst h; rfl
  case str => obtain ⟨_, rfl, _⟩ := h; rfl
  case fn => obtain ⟨_, rfl, _⟩ := h; rfl
  case fnil => subst h; rfl

theorem Value.cells_of_oneCell {v : Value} (h : v.oneCell' = true) : v.cells = #[v] := by
  cases v <;> first | rfl | (simp [Value.oneCell'] at h)

theorem get_prefix {φ ψ : Phi} {i : Nat} {L : Loc} (h : φ[i]? = some L) : (φ ++ ψ)[i]? = some L := by
  rw [List.getElem?_append_left]
  · exact h
  · rcases Nat.lt_or_ge i φ.length with h' | h'
    · exact h'
    · simp [List.getElem?_eq_none h'] at h

theorem relS.mono {φ : Phi} (ψ : Phi) {a : AS} {v : Value} (h : relS φ a v) : relS (φ ++ ψ) a v := by
  cases a <;> simp only [relS] at h ⊢
  case p => obtain ⟨L, h1, h2⟩ := h; exact ⟨L, get_prefix h1, h2⟩
  case pr => obtain ⟨L, h1, h2⟩ := h; exact ⟨L, get_prefix h1, h2⟩
  case px => obtain ⟨L, h1, h2⟩ := h; exact ⟨L, get_prefix h1, h2⟩
  case slw => obtain ⟨L, h1, h2⟩ := h; exact ⟨L, get_prefix h1, h2⟩
  case slk => obtain ⟨L, h1, h2⟩ := h; exact ⟨L, get_prefix h1, h2⟩
  case sld => obtain ⟨L, h1, h2⟩ := h; exact ⟨L, get_prefix h1, h2⟩
  case opq => obtain ⟨L, h1, h2⟩ := h; exact ⟨L, get_prefix h1, h2⟩
  case sl =>
    rcases h with h | ⟨L, cap, h1, h2⟩
    · exact .inl h
    · exact .inr ⟨L, cap, get_prefix h1, h2⟩
  case slr =>
    rcases h with h | ⟨L, cap, h1, h2⟩
    · exact .inl h
    · exact .inr ⟨L, cap, get_prefix h1, h2⟩
  case slc =>
    rcases h with h | ⟨L, h1, h2⟩
    · exact .inl h
    · exact .inr ⟨L, get_prefix h1, h2⟩
  case slq =>
    rcases h with h | ⟨L, cap, h1, h2⟩
    · exact .inl h
    · exact .inr ⟨L, cap, get_prefix h1, h2⟩
  case fn =>
    obtain ⟨cs, h1, h2⟩ := h
    exact ⟨cs, h1, h2.mono fun c u ⟨L, h1, h2⟩ => ⟨L, get_prefix h1, h2⟩⟩
  all_goals exact h

theorem relA.mono {φ : Phi} (ψ : Phi) {a : AV} {v : Value} (h : relA φ a v) : relA (φ ++ ψ) a v := by
  cases a with
  | s a => exact relS.mono ψ h
  | agg l => obtain ⟨cs, h1, h2⟩ := h; exact ⟨cs, h1, h2.mono fun _ _ h => relS.mono ψ h⟩

theorem relT.mono {φ : Phi} (ψ : Phi) {a : TV} {v : Value} (h : relT φ a v) : relT (φ ++ ψ) a v := by
  cases a with
  | v a => exact relA.mono ψ h
  | tup l => obtain ⟨cs, h1, h2⟩ := h; exact ⟨cs, h1, h2.mono fun _ _ h => relA.mono ψ h⟩
  | any => trivial
  | k b => exact h

/-- The cells of an abstract value. -/
def AV.cells : AV → List AS
  | .s a => [a]
  | .agg l => l

theorem relA.cells {φ : Phi} {a : AV} {v : Value} (h : relA φ a v) : All2 (relS φ) a.cells v.cells.toList := by
  cases a with
  | s a =>
    have h1 : v.cells = #[v] := Value.cells_of_oneCell (relS.oneCell h)
    rw [h1]
    exact ⟨h, trivial⟩
  | agg l => obtain ⟨cs, rfl, h2⟩ := h; exact h2

/-- What stands for a block. A block of no cells needs none. -/
def RepB (φ : Phi) (L : Loc) (heap : Array Obj) : Blk → Prop
  | .cells l => L.base = 0 ∧ L.sz = l.length ∧ (L.sz = 0 ∨ ∃ cs t, heap[L.b]? = some (.cells cs t (0, 0)) ∧ All2 (relS φ) l cs.toList)
  | .roc l => L.base = 0 ∧ L.sz = l.length ∧ (L.sz = 0 ∨ ∃ cs t, heap[L.b]? = some (.cells cs t (0, 0)) ∧ All2 (relS φ) l cs.toList)
  | .rows ks n g own => L.n = n ∧ n * ks.length ≤ L.sz ∧ (L.sz = 0 ∨ ∃ cs t fr, heap[L.b]? = some (.cells cs t fr) ∧ L.base + L.sz ≤ cs.size ∧ (own = true → L.base = 0 ∧ fr = (0, 0)) ∧
      ∀ (i c : Nat) (sk : SK), i < n → ks[c]? = some sk → ∃ v, cs[L.base + (i * ks.length + c)]? = some v ∧ relS φ (mkS sk (g i c)) v)

structure Rep (φ : Phi) (H : AH) (heap : Array Obj) : Prop where
  len : φ.length = H.length
  blk : ∀ (id : Nat) B, H[id]? = some (some B) → ∃ L, φ[id]? = some L ∧ RepB φ L heap B
  apart : ∀ (id id' : Nat) (B B' : Blk) (L L' : Loc) (b : Nat), H[id]? = some (some B) → H[id']? = some (some B') → φ[id]? = some L → φ[id']? = some L' → id ≠ id' → B.mut = true → B.foot L b → B'.foot L' b → False

/-- From one state to a later one: what is not of a mutable block stays. -/
structure ExtH (φ : Phi) (H : AH) (heap : Array Obj) (φ' : Phi) (H' : AH) (heap' : Array Obj) : Prop where
  size : heap.size ≤ heap'.size
  pre : ∃ ψ, φ' = φ ++ ψ
  frame : ∀ b, b < heap.size → (∀ (id : Nat) (B : Blk) (L : Loc), H[id]? = some (some B) → B.mut = true → φ[id]? = some L → ¬ B.foot L b) → heap'[b]? = heap[b]?
  img : ∀ (id : Nat) (B : Blk) (L : Loc) (b : Nat), H'[id]? = some (some B) → φ'[id]? = some L → B.foot L b → heap.size ≤ b ∨ ∃ (id0 : Nat) (B0 : Blk) (L0 : Loc), H[id0]? = some (some B0) ∧ φ[id0]? = some L0 ∧ B0.foot L0 b ∧ (B.mut = true → B0.mut = true)

theorem ExtH.refl (φ : Phi) (H : AH) (heap : Array Obj) : ExtH φ H heap φ H heap :=
  ⟨Nat.le_refl _, ⟨[], by simp⟩, fun _ _ _ => rfl, fun i B L _ h1 h2 h3 => .inr ⟨i, B, L, h1, h2, h3, fun h => h⟩⟩

theorem ExtH.trans {φ : Phi} {H : AH} {h : Array Obj} {φ1 : Phi} {H1 : AH} {h1 : Array Obj} {φ2 : Phi} {H2 : AH} {h2 : Array Obj}
    (a : ExtH φ H h φ1 H1 h1) (b : ExtH φ1 H1 h1 φ2 H2 h2) : ExtH φ H h φ2 H2 h2 := by
  refine ⟨Nat.le_trans a.size b.size, ?_, ?_, ?_⟩
  · obtain ⟨ψ, rfl⟩ := a.pre
    obtain ⟨ψ', rfl⟩ := b.pre
    exact ⟨ψ ++ ψ', by simp⟩
  · intro x hx hn
    rw [b.frame x (Nat.lt_of_lt_of_le hx a.size), a.frame x hx hn]
    intro id B L hB hm hL hf
    rcases a.img id B L x hB hL hf with h' | ⟨id0, B0, L0, e1, e2, e3, e4⟩
    · omega
    · exact hn id0 B0 L0 e1 (e4 hm) e2 e3
  · intro id B L x hB hL hf
    rcases b.img id B L x hB hL hf with h' | ⟨id0, B0, L0, e1, e2, e3, e4⟩
    · exact .inl (Nat.le_trans a.size h')
    · rcases a.img id0 B0 L0 x e1 e2 e3 with h' | ⟨id1, B1, L1, f1, f2, f3, f4⟩
      · exact .inl h'
      · exact .inr ⟨id1, B1, L1, f1, f2, f3, fun hm => f4 (e4 hm)⟩

/-- .. and the world outside is as it was. -/
structure Ext (φ : Phi) (H : AH) (w : World) (φ' : Phi) (H' : AH) (w' : World) : Prop extends ExtH φ H w.heap φ' H' w'.heap where
  os : w'.os = w.os
  output : w'.output = w.output
  tape : w'.tape = w.tape

theorem Ext.refl (φ : Phi) (H : AH) (w : World) : Ext φ H w φ H w := ⟨ExtH.refl φ H w.heap, rfl, rfl, rfl⟩

theorem Ext.drew {φ : Phi} {H : AH} {w : World} {φ' : Phi} {H' : AH} {w' : World} (h : Ext φ H { w with drawn := w.drawn + 1 } φ' H' w') : Ext φ H w φ' H' w' := ⟨h.toExtH, h.os, h.output, h.tape⟩

theorem Ext.trans {φ : Phi} {H : AH} {w : World} {φ1 : Phi} {H1 : AH} {w1 : World} {φ2 : Phi} {H2 : AH} {w2 : World} (a : Ext φ H w φ1 H1 w1) (b : Ext φ1 H1 w1 φ2 H2 w2) : Ext φ H w φ2 H2 w2 :=
  ⟨a.toExtH.trans b.toExtH, b.os.trans a.os, b.output.trans a.output, b.tape.trans a.tape⟩

/-- A block whose cells lie as they lay. -/
theorem RepB.of_heap {φ : Phi} {L : Loc} {heap heap' : Array Obj} {B : Blk} (h : RepB φ L heap B) (he : ∀ b, B.foot L b → heap'[b]? = heap[b]?) : RepB φ L heap' B := by
  cases B with
  | cells l =>
    obtain ⟨h1, h2, h3⟩ := h
    refine ⟨h1, h2, ?_⟩
    rcases Nat.eq_zero_or_pos L.sz with h0 | h0
    · exact .inl h0
    · rw [he L.b ⟨h0, rfl⟩]; exact h3
  | roc l =>
    obtain ⟨h1, h2, h3⟩ := h
    refine ⟨h1, h2, ?_⟩
    rcases Nat.eq_zero_or_pos L.sz with h0 | h0
    · exact .inl h0
    · rw [he L.b ⟨h0, rfl⟩]; exact h3
  | rows ks n g own =>
    obtain ⟨hn, h1, h3⟩ := h
    refine ⟨hn, h1, ?_⟩
    rcases Nat.eq_zero_or_pos L.sz with h0 | h0
    · exact .inl h0
    · rw [he L.b ⟨h0, rfl⟩]; exact h3

theorem RepB.mono {φ : Phi} (ψ : Phi) {L : Loc} {heap : Array Obj} {B : Blk} (h : RepB φ L heap B) : RepB (φ ++ ψ) L heap B := by
  cases B with
  | cells l =>
    obtain ⟨h1, h2, h3⟩ := h
    exact ⟨h1, h2, h3.imp id fun ⟨cs, t, h3, h4⟩ => ⟨cs, t, h3, h4.mono fun _ _ h => relS.mono ψ h⟩⟩
  | roc l =>
    obtain ⟨h1, h2, h3⟩ := h
    exact ⟨h1, h2, h3.imp id fun ⟨cs, t, h3, h4⟩ => ⟨cs, t, h3, h4.mono fun _ _ h => relS.mono ψ h⟩⟩
  | rows ks n g own =>
    obtain ⟨hn, h1, h2⟩ := h
    exact ⟨hn, h1, h2.imp id fun ⟨cs, t, fr, h2, h3, h4, h5⟩ => ⟨cs, t, fr, h2, h3, h4, fun i c sk hi hc => let ⟨v, e1, e2⟩ := h5 i c sk hi hc; ⟨v, e1, relS.mono ψ e2⟩⟩⟩

theorem RepB.lt {φ : Phi} {L : Loc} {heap : Array Obj} {B : Blk} (h : RepB φ L heap B) {b : Nat} (hf : B.foot L b) : b < heap.size := by
  have key : ∀ {b : Nat} {o : Obj}, heap[b]? = some o → b < heap.size := by
    intro b o ho
    rcases Nat.lt_or_ge b heap.size with h' | h'
    · exact h'
    · simp [Array.getElem?_eq_none h'] at ho
  obtain ⟨h0, rfl⟩ := hf
  cases B with
  | cells l => obtain ⟨_, _, h3 | ⟨cs, t, h3, _⟩⟩ := h; omega; exact key h3
  | roc l => obtain ⟨_, _, h3 | ⟨cs, t, h3, _⟩⟩ := h; omega; exact key h3
  | rows ks n g own => obtain ⟨_, _, h3 | ⟨cs, t, fr, h2, _⟩⟩ := h; omega; exact key h2

/-- The representation in a later heap in which all blocks that stood are as they were. -/
theorem Rep.of_heap {φ : Phi} {H : AH} {heap heap' : Array Obj} (h : Rep φ H heap) (he : ∀ b, b < heap.size → heap'[b]? = heap[b]?) : Rep φ H heap' :=
  ⟨h.len, fun id B hB => let ⟨L, h1, h2⟩ := h.blk id B hB; ⟨L, h1, h2.of_heap fun _ hf => he _ (h2.lt hf)⟩, h.apart⟩

end Go.AM
