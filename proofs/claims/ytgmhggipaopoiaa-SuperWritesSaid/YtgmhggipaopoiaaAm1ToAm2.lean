/-
  The abstract machine, part 1: abstract values and blocks, what they stand for, and how what stands for them is kept.
-/
import Derived.Calls
import Derived.Orders
import Derived.Laws.Cells
import Derived.Laws.World
import Derived.Laws.CopyRow
import Derived.Laws.Tables
import Derived.Laws.StructEq
import Derived.Laws.Slices
import Derived.Laws.Append
section
namespace Go.AM

inductive SK where
  | b
  | n (k : IntKind)
  deriving DecidableEq

inductive AS where
  | b (x : Bool)
  | n (k : IntKind) (x : Int)
  | p (id o : Nat)
  | pr (id wd i c : Nat)
  | px (id wd i o n len j c : Nat)
  | pnil
  | sl (id wd o len : Nat)
  | slr (id wd i len cp : Nat)
  | slc (id wd i len : Nat)
  | slq (id wd i len : Nat)
  | slw (id wd n : Nat)
  | slk (id wd n cp : Nat)
  | sld (id wd len : Nat)
  | opq (id : Nat)
  | slz (id wd i len : Nat)
  | mem (id F wd i len : Nat)
  | mems (id F wd i lo len : Nat)
  | mpx (id F wd i j o n len jj c : Nat)
  | slnil
  | sle
  | str (l : List UInt8)
  | fn (f : FuncId) (caps : List (Nat × Nat))
  | fnil

inductive AV where
  | s (a : AS)
  | agg (l : List AS)

inductive TV where
  | v (a : AV)
  | tup (l : List AV)
  | any
  | k (b : Bool)

inductive Ow where
  | all
  | but (i : Nat)
  | below (k : Nat)

def Ow.has : Ow → Nat → Prop
  | .all, _ => True
  | .but i, j => j ≠ i
  | .below k, j => j < k

inductive Blk where
  | cells (l : List AS)
  | roc (l : List AS)
  | rows (ks : List SK) (n : Nat) (g : Nat → Nat → Int) (own : Bool)
  | nrows (ks : List SK) (c0 : Nat) (ms : List SK) (n : Nat) (g h : Nat → Nat → Int) (F : Nat) (ow : Ow) (own : Bool)

def Blk.mut : Blk → Bool
  | .cells _ => true
  | .roc _ => false
  | .rows _ _ _ own => own
  | .nrows _ _ _ _ _ _ _ _ own => own

abbrev AH := List (Option Blk)

structure ASt where
  tm : List TV
  hp : AH

structure LocX where
  val : Value
  mem : Nat → Value

def LocX.nil : LocX := ⟨.tuple #[], fun _ => .tuple #[]⟩

structure Loc where
  b : Nat
  base : Nat
  sz : Nat
  n : Nat
  x : LocX

abbrev Phi := List Loc

def footV (v : Value) (b : Nat) : Prop := ∃ a len cap, v = .slice (some a) len cap ∧ 0 < cap ∧ a.block = b

def Blk.foot (φ : Phi) (B : Blk) (L : Loc) (b : Nat) : Prop :=
  match B with
  | .nrows _ _ _ n _ _ F ow _ => (0 < L.sz ∧ L.b = b) ∨ ∃ LF i, φ[F]? = some LF ∧ i < n ∧ ow.has i ∧ footV (LF.x.mem i) b
  | _ => 0 < L.sz ∧ L.b = b

def All2 {α β : Type} (R : α → β → Prop) : List α → List β → Prop
  | [], [] => True
  | a :: as, b :: bs => R a b ∧ All2 R as bs
  | _, _ => False

section All2
variable {α β : Type} {R S : α → β → Prop}

theorem All2.length_eq : ∀ {l : List α} {m : List β}, All2 R l m → l.length = m.length
  | [], [], _ => rfl
  | _ :: _, _ :: _, h => by simp [h.2.length_eq]
  | [], _ :: _, h => h.elim
  | _ :: _, [], h => h.elim

theorem All2.mono (hr : ∀ a b, R a b → S a b) : ∀ {l : List α} {m : List β}, All2 R l m → All2 S l m
  | [], [], _ => trivial
  | _ :: _, _ :: _, h => ⟨hr _ _ h.1, h.2.mono hr⟩
  | [], _ :: _, h => h.elim
  | _ :: _, [], h => h.elim

theorem All2.get : ∀ {l : List α} {m : List β} (_ : All2 R l m) {i : Nat} {a : α}, l[i]? = some a → ∃ b, m[i]? = some b ∧ R a b
  | [], [], _, i, a, hi => by simp at hi
  | x :: xs, y :: ys, h, 0, a, hi => by simp at hi; exact ⟨y, rfl, hi ▸ h.1⟩
  | x :: xs, y :: ys, h, i + 1, a, hi => by simpa using h.2.get (i := i) (by simpa using hi)
  | [], _ :: _, h, _, _, _ => h.elim
  | _ :: _, [], h, _, _, _ => h.elim

theorem All2.get_r : ∀ {l : List α} {m : List β} (_ : All2 R l m) {i : Nat} {b : β}, m[i]? = some b → ∃ a, l[i]? = some a ∧ R a b
  | [], [], _, i, a, hi => by simp at hi
  | x :: xs, y :: ys, h, 0, a, hi => by simp at hi; exact ⟨x, rfl, hi ▸ h.1⟩
  | x :: xs, y :: ys, h, i + 1, a, hi => by simpa using h.2.get_r (i := i) (by simpa using hi)
  | [], _ :: _, h, _, _, _ => h.elim
  | _ :: _, [], h, _, _, _ => h.elim

theorem All2.of_get : ∀ {l : List α} {m : List β}, l.length = m.length → (∀ (i : Nat) a b, l[i]? = some a → m[i]? = some b → R a b) → All2 R l m
  | [], [], _, _ => trivial
  | x :: xs, y :: ys, hl, h => ⟨h 0 x y rfl rfl, All2.of_get (by simpa using hl) (fun i a b ha hb => h (i + 1) a b (by simpa using ha) (by simpa using hb))⟩
  | [], _ :: _, hl, _ => by simp at hl
  | _ :: _, [], hl, _ => by simp at hl

theorem All2.set : ∀ {l : List α} {m : List β} (_ : All2 R l m) (i : Nat) {a : α} {b : β}, R a b → All2 R (l.set i a) (m.set i b)
  | [], [], _, _, _, _, _ => trivial
  | _ :: _, _ :: _, h, 0, _, _, hr => ⟨hr, h.2⟩
  | _ :: _, _ :: _, h, i + 1, _, _, hr => ⟨h.1, h.2.set i hr⟩
  | [], _ :: _, h, _, _, _, _ => h.elim
  | _ :: _, [], h, _, _, _, _ => h.elim

theorem All2.append : ∀ {l : List α} {m : List β} {l' : List α} {m' : List β}, All2 R l m → All2 R l' m' → All2 R (l ++ l') (m ++ m')
  | [], [], _, _, _, h' => h'
  | _ :: _, _ :: _, _, _, h, h' => ⟨h.1, h.2.append h'⟩
  | [], _ :: _, _, _, h, _ => h.elim
  | _ :: _, [], _, _, h, _ => h.elim

theorem All2.take : ∀ {l : List α} {m : List β} (_ : All2 R l m) (n : Nat), All2 R (l.take n) (m.take n)
  | [], [], _, _ => by simp [All2]
  | _ :: _, _ :: _, _, 0 => by simp [All2]
  | _ :: _, _ :: _, h, n + 1 => ⟨h.1, h.2.take n⟩
  | [], _ :: _, h, _ => h.elim
  | _ :: _, [], h, _ => h.elim

theorem All2.drop : ∀ {l : List α} {m : List β} (_ : All2 R l m) (n : Nat), All2 R (l.drop n) (m.drop n)
  | [], [], _, _ => by simp [All2]
  | _ :: _, _ :: _, h, 0 => h
  | _ :: _, _ :: _, h, n + 1 => h.2.drop n
  | [], _ :: _, h, _ => h.elim
  | _ :: _, [], h, _ => h.elim

theorem All2.map_l {γ : Type} {f : γ → α} {T : γ → β → Prop} (hf : ∀ c b, T c b → R (f c) b) : ∀ {l : List γ} {m : List β}, All2 T l m → All2 R (l.map f) m
  | [], [], _ => trivial
  | _ :: _, _ :: _, h => ⟨hf _ _ h.1, h.2.map_l hf⟩
  | [], _ :: _, h => h.elim
  | _ :: _, [], h => h.elim

theorem All2.replicate {a : α} {b : β} (h : R a b) : ∀ n, All2 R (List.replicate n a) (List.replicate n b)
  | 0 => trivial
  | n + 1 => ⟨h, All2.replicate h n⟩
end All2

def mkS : SK → Int → AS
  | .b, x => .b (x != 0)
  | .n k, x => .n k x

def relS (φ : Phi) : AS → Value → Prop
  | .b x, v => v = .bool x
  | .n k x, v => v = .int k x
  | .p id o, v => ∃ L, φ[id]? = some L ∧ v = .pointer (some ⟨L.b, L.base + o, none⟩)
  | .pr id wd i c, v => ∃ L, φ[id]? = some L ∧ i < L.n ∧ v = .pointer (some ⟨L.b, L.base + (i * wd + c), none⟩)
  | .px id wd i o n len j c, v => ∃ L, φ[id]? = some L ∧ j < len ∧ (wd = 0 ∨ i < L.n) ∧ v = .pointer (some ⟨L.b, L.base + (i * wd + (o + j * n + c)), none⟩)
  | .pnil, v => v = .pointer none
  | .sl id _ o len, v => (len = 0 ∧ ∃ a, v = .slice a 0 0) ∨ ∃ L cap, φ[id]? = some L ∧ len ≤ cap ∧ v = .slice (some ⟨L.b, L.base + o, none⟩) len cap
  | .slr id wd i len cp, v => (len = 0 ∧ cp = 0 ∧ ∃ a, v = .slice a 0 0) ∨ ∃ L cap, φ[id]? = some L ∧ len ≤ cp ∧ cp ≤ cap ∧ i + cp ≤ L.n ∧ (i + cap) * wd ≤ L.sz ∧ v = .slice (some ⟨L.b, L.base + i * wd, none⟩) len cap
  | .slc id wd i len, v => (len = 0 ∧ ∃ a, v = .slice a 0 0) ∨ ∃ L, φ[id]? = some L ∧ i + len ≤ L.n ∧ (i + len) * wd ≤ L.sz ∧ v = .slice (some ⟨L.b, L.base + i * wd, none⟩) len len
  | .slq id wd i len, v => (len = 0 ∧ ∃ a, v = .slice a 0 0) ∨ ∃ L cap, φ[id]? = some L ∧ len ≤ cap ∧ i + len ≤ L.n ∧ v = .slice (some ⟨L.b, L.base + i * wd, none⟩) len cap
  | .slw id wd n, v => ∃ L, φ[id]? = some L ∧ L.n = n ∧ ((n = 0 ∧ ∃ a, v = .slice a 0 0) ∨ ∃ cap, n ≤ cap ∧ cap * wd ≤ L.sz ∧ v = .slice (some ⟨L.b, L.base, none⟩) n cap)
  | .slk id wd n cp, v => ∃ L, φ[id]? = some L ∧ L.n = n ∧ n ≤ cp ∧ ((cp = 0 ∧ ∃ a, v = .slice a 0 0) ∨ ∃ cap, cp ≤ cap ∧ cap * wd ≤ L.sz ∧ v = .slice (some ⟨L.b, L.base, none⟩) n cap)
  | .sld id wd len, v => ∃ L, φ[id]? = some L ∧ ((len = 0 ∧ ∃ a, v = .slice a 0 0) ∨ ∃ o cap, L.n ≤ o ∧ len ≤ cap ∧ (o + cap) * wd ≤ L.sz ∧ v = .slice (some ⟨L.b, L.base + o * wd, none⟩) len cap)
  | .opq id, v => ∃ L, φ[id]? = some L ∧ v = L.x.val ∧ v.oneCell' = true ∧ (∀ k n, v ≠ .int k n) ∧ ∀ s, v ≠ .string s
  | .slz id wd i len, v => (len = 0 ∧ ∃ a, v = .slice (some a) 0 0) ∨ ∃ L cap, φ[id]? = some L ∧ len ≤ cap ∧ i + len ≤ L.n ∧ v = .slice (some ⟨L.b, L.base + i * wd, none⟩) len cap
  | .mem id F _ i len, v => ∃ L LF, φ[id]? = some L ∧ φ[F]? = some LF ∧ i < L.n ∧ v = LF.x.mem i ∧ ((len = 0 ∧ ∃ a, v = .slice a 0 0) ∨ ∃ b o cap, v = .slice (some ⟨b, o, none⟩) len cap ∧ 0 < cap ∧ len ≤ cap)
  | .mems id F wd i lo len, v => (len = 0 ∧ ∃ a, v = .slice a 0 0) ∨ ∃ L LF b o len0 cap0 cap, φ[id]? = some L ∧ φ[F]? = some LF ∧ i < L.n ∧ LF.x.mem i = .slice (some ⟨b, o, none⟩) len0 cap0 ∧ lo + len ≤ len0 ∧ len ≤ cap ∧ v = .slice (some ⟨b, o + lo * wd, none⟩) len cap
  | .mpx id F wd i j o n len jj c, v => ∃ L LF b ob len0 cap0, φ[id]? = some L ∧ φ[F]? = some LF ∧ i < L.n ∧ LF.x.mem i = .slice (some ⟨b, ob, none⟩) len0 cap0 ∧ j < len0 ∧ jj < len ∧ v = .pointer (some ⟨b, ob + (j * wd + (o + jj * n + c)), none⟩)
  | .slnil, v => v = .slice none 0 0
  | .sle, v => ∃ a, v = .slice (some a) 0 0
  | .str l, v => ∃ s : ByteArray, v = .string s ∧ s.data.toList = l
  | .fn f caps, v => ∃ cs : List Value, v = .func (.func f) #[] cs.toArray ∧ All2 (fun (c : Nat × Nat) u => ∃ L, φ[c.1]? = some L ∧ u = .pointer (some ⟨L.b, L.base + c.2, none⟩)) caps cs
  | .fnil, v => v = .nilFunc

def relA (φ : Phi) : AV → Value → Prop
  | .s a, v => relS φ a v
  | .agg l, v => ∃ cs : Array Value, v = .agg cs ∧ All2 (relS φ) l cs.toList

def relT (φ : Phi) : TV → Value → Prop
  | .v a, v => relA φ a v
  | .tup l, v => ∃ vs : Array Value, v = .tuple vs ∧ All2 (relA φ) l vs.toList
  | .any, _ => True
  | .k b, v => v = .bool b

theorem slw_of_slk {φ : Phi} {id wd n cp : Nat} {v : Value} (h : relS φ (.slk id wd n cp) v) : relS φ (.slw id wd n) v := by
  obtain ⟨L, hL, hn, hle, h⟩ := h
  rcases h with ⟨h0, a, rfl⟩ | ⟨cap, h1, h2, rfl⟩
  · exact ⟨L, hL, hn, .inl ⟨by omega, a, rfl⟩⟩
  · exact ⟨L, hL, hn, .inr ⟨cap, by omega, h2, rfl⟩⟩

theorem slr_of_slw {φ : Phi} {id wd n : Nat} {v : Value} (h : relS φ (.slw id wd n) v) : relS φ (.slr id wd 0 n n) v := by
  obtain ⟨L, hL, hn, h⟩ := h
  rcases h with ⟨h0, a, rfl⟩ | ⟨cap, h1, h2, rfl⟩
  · exact .inl ⟨h0, h0, a, rfl⟩
  · exact .inr ⟨L, cap, hL, Nat.le_refl _, h1, by omega, by simpa using h2, by simp⟩

theorem mems_of_mem {φ : Phi} {id F wd i len : Nat} {v : Value} (h : relS φ (.mem id F wd i len) v) : relS φ (.mems id F wd i 0 len) v := by
  obtain ⟨L, LF, hL, hF, hi, hm, h⟩ := h
  rcases h with h | ⟨b, o, cap, hv, h0, hle⟩
  · exact .inl h
  · exact .inr ⟨L, LF, b, o, len, cap, cap, hL, hF, hi, by rw [← hm, hv], by omega, hle, by rw [hv]; simp⟩

theorem relS.oneCell {φ : Phi} {a : AS} {v : Value} (h : relS φ a v) : v.oneCell' = true := by
  cases a <;> simp only [relS] at h
  case b => subst h; rfl
  case n => subst h; rfl
  case p => obtain ⟨_, _, rfl⟩ := h; rfl
  case pr => obtain ⟨_, _, _, rfl⟩ := h; rfl
  case px => obtain ⟨_, _, _, _, rfl⟩ := h; rfl
  case pnil => subst h; rfl
  case sl => rcases h with ⟨_, _, rfl⟩ | ⟨_, _, _, _, rfl⟩ <;> rfl
  case slr => rcases h with ⟨_, _, _, rfl⟩ | ⟨_, _, _, _, _, _, _, rfl⟩ <;> rfl
  case slc => rcases h with ⟨_, _, rfl⟩ | ⟨_, _, _, _, rfl⟩ <;> rfl
  case slq => rcases h with ⟨_, _, rfl⟩ | ⟨_, _, _, _, _, rfl⟩ <;> rfl
  case slw => rcases h with ⟨_, _, _, ⟨_, _, rfl⟩ | ⟨_, _, _, rfl⟩⟩ <;> rfl
  case slk => rcases h with ⟨_, _, _, _, ⟨_, _, rfl⟩ | ⟨_, _, _, rfl⟩⟩ <;> rfl
  case sld => rcases h with ⟨_, _, ⟨_, _, rfl⟩ | ⟨_, _, _, _, _, rfl⟩⟩ <;> rfl
  case opq => obtain ⟨_, _, _, h, _⟩ := h; exact h
  case slz => rcases h with ⟨_, _, rfl⟩ | ⟨_, _, _, _, _, rfl⟩ <;> rfl
  case mem => rcases h with ⟨_, _, _, _, _, _, ⟨_, _, rfl⟩ | ⟨_, _, _, rfl, _⟩⟩ <;> rfl
  case mems => rcases h with ⟨_, _, rfl⟩ | ⟨_, _, _, _, _, _, _, _, _, _, _, _, _, rfl⟩ <;> rfl
  case mpx => obtain ⟨_, _, _, _, _, _, _, _, _, _, _, _, rfl⟩ := h; rfl
  case slnil => subst h; rfl
  case sle => obtain ⟨_, rfl⟩ := h; rfl
  case str => obtain ⟨_, rfl, _⟩ := h; rfl
  case fn => obtain ⟨_, rfl, _⟩ := h; rfl
  case fnil => subst h; rfl

theorem Value.cells_of_oneCell {v : Value} (h : v.oneCell' = true) : v.cells = #[v] := by
  cases v <;> first | rfl | (simp [Value.oneCell'] at h)

theorem get_prefix {φ ψ : Phi} {i : Nat} {L : Loc} (h : φ[i]? = some L) : (φ ++ ψ)[i]? = some L := by
  rw [List.getElem?_append_left]
  · exact h
  · rcases Nat.lt_or_ge i φ.length with h' | h'
    · exact h'
    · simp [List.getElem?_eq_none h'] at h

theorem relS.mono {φ : Phi} (ψ : Phi) {a : AS} {v : Value} (h : relS φ a v) : relS (φ ++ ψ) a v := by
  cases a <;> simp only [relS] at h ⊢
  case p => obtain ⟨L, h1, h2⟩ := h; exact ⟨L, get_prefix h1, h2⟩
  case pr => obtain ⟨L, h1, h2⟩ := h; exact ⟨L, get_prefix h1, h2⟩
  case px => obtain ⟨L, h1, h2⟩ := h; exact ⟨L, get_prefix h1, h2⟩
  case slw => obtain ⟨L, h1, h2⟩ := h; exact ⟨L, get_prefix h1, h2⟩
  case slk => obtain ⟨L, h1, h2⟩ := h; exact ⟨L, get_prefix h1, h2⟩
  case sld => obtain ⟨L, h1, h2⟩ := h; exact ⟨L, get_prefix h1, h2⟩
  case opq => obtain ⟨L, h1, h2⟩ := h; exact ⟨L, get_prefix h1, h2⟩
  case slz =>
    rcases h with h | ⟨L, cap, h1, h2⟩
    · exact .inl h
    · exact .inr ⟨L, cap, get_prefix h1, h2⟩
  case mem => obtain ⟨L, LF, h1, h2, h3⟩ := h; exact ⟨L, LF, get_prefix h1, get_prefix h2, h3⟩
  case mems =>
    rcases h with h | ⟨L, LF, b, o, l0, c0, cap, h1, h2, h3⟩
    · exact .inl h
    · exact .inr ⟨L, LF, b, o, l0, c0, cap, get_prefix h1, get_prefix h2, h3⟩
  case mpx => obtain ⟨L, LF, b, o, l0, c0, h1, h2, h3⟩ := h; exact ⟨L, LF, b, o, l0, c0, get_prefix h1, get_prefix h2, h3⟩
  case sl =>
    rcases h with h | ⟨L, cap, h1, h2⟩
    · exact .inl h
    · exact .inr ⟨L, cap, get_prefix h1, h2⟩
  case slr =>
    rcases h with h | ⟨L, cap, h1, h2⟩
    · exact .inl h
    · exact .inr ⟨L, cap, get_prefix h1, h2⟩
  case slc =>
    rcases h with h | ⟨L, h1, h2⟩
    · exact .inl h
    · exact .inr ⟨L, get_prefix h1, h2⟩
  case slq =>
    rcases h with h | ⟨L, cap, h1, h2⟩
    · exact .inl h
    · exact .inr ⟨L, cap, get_prefix h1, h2⟩
  case fn =>
    obtain ⟨cs, h1, h2⟩ := h
    exact ⟨cs, h1, h2.mono fun c u ⟨L, h1, h2⟩ => ⟨L, get_prefix h1, h2⟩⟩
  all_goals exact h

theorem relA.mono {φ : Phi} (ψ : Phi) {a : AV} {v : Value} (h : relA φ a v) : relA (φ ++ ψ) a v := by
  cases a with
  | s a => exact relS.mono ψ h
  | agg l => obtain ⟨cs, h1, h2⟩ := h; exact ⟨cs, h1, h2.mono fun _ _ h => relS.mono ψ h⟩

theorem relT.mono {φ : Phi} (ψ : Phi) {a : TV} {v : Value} (h : relT φ a v) : relT (φ ++ ψ) a v := by
  cases a with
  | v a => exact relA.mono ψ h
  | tup l => obtain ⟨cs, h1, h2⟩ := h; exact ⟨cs, h1, h2.mono fun _ _ h => relA.mono ψ h⟩
  | any => trivial
  | k b => exact h

def AV.cells : AV → List AS
  | .s a => [a]
  | .agg l => l

theorem relA.cells {φ : Phi} {a : AV} {v : Value} (h : relA φ a v) : All2 (relS φ) a.cells v.cells.toList := by
  cases a with
  | s a =>
    have h1 : v.cells = #[v] := Value.cells_of_oneCell (relS.oneCell h)
    rw [h1]
    exact ⟨h, trivial⟩
  | agg l => obtain ⟨cs, rfl, h2⟩ := h; exact h2

def MemRep (φ : Phi) (heap : Array Obj) (ms : List SK) (own : Bool) (len : Nat) (hi : Nat → Int) (v : Value) : Prop :=
  (len = 0 ∧ ∃ a, v = .slice a 0 0) ∨ ∃ b o cap cs t fr, v = .slice (some ⟨b, o, none⟩) len cap ∧ 0 < cap ∧ len ≤ cap ∧ heap[b]? = some (.cells cs t fr) ∧ o + cap * ms.length ≤ cs.size ∧ (own = true → o = 0 ∧ fr = (0, 0)) ∧
    ∀ (j c : Nat) (sk : SK), j < len → ms[c]? = some sk → ∃ u, cs[o + (j * ms.length + c)]? = some u ∧ relS φ (mkS sk (hi (j * ms.length + c))) u

def RepB (φ : Phi) (L : Loc) (heap : Array Obj) : Blk → Prop
  | .cells l => L.base = 0 ∧ L.sz = l.length ∧ (L.sz = 0 ∨ ∃ cs t, heap[L.b]? = some (.cells cs t (0, 0)) ∧ All2 (relS φ) l cs.toList)
  | .roc l => L.base = 0 ∧ L.sz = l.length ∧ (L.sz = 0 ∨ ∃ cs t, heap[L.b]? = some (.cells cs t (0, 0)) ∧ All2 (relS φ) l cs.toList)
  | .rows ks n g own => L.n = n ∧ n * ks.length ≤ L.sz ∧ (L.sz = 0 ∨ ∃ cs t fr, heap[L.b]? = some (.cells cs t fr) ∧ L.base + L.sz ≤ cs.size ∧ (own = true → L.base = 0 ∧ fr = (0, 0)) ∧
      ∀ (i c : Nat) (sk : SK), i < n → ks[c]? = some sk → ∃ v, cs[L.base + (i * ks.length + c)]? = some v ∧ relS φ (mkS sk (g i c)) v)
  | .nrows ks c0 ms n g h F ow own => L.n = n ∧ n * ks.length ≤ L.sz ∧ c0 < ks.length ∧ ∃ LF, φ[F]? = some LF ∧ (L.sz = 0 ∨ ∃ cs t fr, heap[L.b]? = some (.cells cs t fr) ∧ L.base + L.sz ≤ cs.size ∧ (own = true → L.base = 0 ∧ fr = (0, 0)) ∧
      ∀ (i c : Nat) (sk : SK), i < n → ks[c]? = some sk → ∃ v, cs[L.base + (i * ks.length + c)]? = some v ∧ (c ≠ c0 → relS φ (mkS sk (g i c)) v) ∧ (c = c0 → ow.has i → v = LF.x.mem i)) ∧
      (∀ i, i < n → ow.has i → 0 ≤ g i c0 ∧ MemRep φ heap ms own (g i c0).toNat (h i) (LF.x.mem i)) ∧
      (own = true → ∀ i, i < n → ow.has i → (0 < L.sz → ¬ footV (LF.x.mem i) L.b) ∧ ∀ j, j < n → ow.has j → i ≠ j → ∀ b, footV (LF.x.mem i) b → footV (LF.x.mem j) b → False)

structure Rep (φ : Phi) (H : AH) (heap : Array Obj) : Prop where
  len : φ.length = H.length
  blk : ∀ (id : Nat) B, H[id]? = some (some B) → ∃ L, φ[id]? = some L ∧ RepB φ L heap B
  apart : ∀ (id id' : Nat) (B B' : Blk) (L L' : Loc) (b : Nat), H[id]? = some (some B) → H[id']? = some (some B') → φ[id]? = some L → φ[id']? = some L' → id ≠ id' → B.mut = true → B.foot φ L b → B'.foot φ L' b → False

structure ExtH (φ : Phi) (H : AH) (heap : Array Obj) (φ' : Phi) (H' : AH) (heap' : Array Obj) : Prop where
  size : heap.size ≤ heap'.size
  pre : ∃ ψ, φ' = φ ++ ψ
  frame : ∀ b, b < heap.size → (∀ (id : Nat) (B : Blk) (L : Loc), H[id]? = some (some B) → B.mut = true → φ[id]? = some L → ¬ B.foot φ L b) → heap'[b]? = heap[b]?
  img : ∀ (id : Nat) (B : Blk) (L : Loc) (b : Nat), H'[id]? = some (some B) → φ'[id]? = some L → B.foot φ' L b → heap.size ≤ b ∨ ∃ (id0 : Nat) (B0 : Blk) (L0 : Loc), H[id0]? = some (some B0) ∧ φ[id0]? = some L0 ∧ B0.foot φ L0 b ∧ (B.mut = true → B0.mut = true)

theorem ExtH.refl (φ : Phi) (H : AH) (heap : Array Obj) : ExtH φ H heap φ H heap :=
  ⟨Nat.le_refl _, ⟨[], by simp⟩, fun _ _ _ => rfl, fun i B L _ h1 h2 h3 => .inr ⟨i, B, L, h1, h2, h3, fun h => h⟩⟩

theorem ExtH.trans {φ : Phi} {H : AH} {h : Array Obj} {φ1 : Phi} {H1 : AH} {h1 : Array Obj} {φ2 : Phi} {H2 : AH} {h2 : Array Obj}
    (a : ExtH φ H h φ1 H1 h1) (b : ExtH φ1 H1 h1 φ2 H2 h2) : ExtH φ H h φ2 H2 h2 := by
  refine ⟨Nat.le_trans a.size b.size, ?_, ?_, ?_⟩
  · obtain ⟨ψ, rfl⟩ := a.pre
    obtain ⟨ψ', rfl⟩ := b.pre
    exact ⟨ψ ++ ψ', by simp⟩
  · intro x hx hn
    rw [b.frame x (Nat.lt_of_lt_of_le hx a.size), a.frame x hx hn]
    intro id B L hB hm hL hf
    rcases a.img id B L x hB hL hf with h' | ⟨id0, B0, L0, e1, e2, e3, e4⟩
    · omega
    · exact hn id0 B0 L0 e1 (e4 hm) e2 e3
  · intro id B L x hB hL hf
    rcases b.img id B L x hB hL hf with h' | ⟨id0, B0, L0, e1, e2, e3, e4⟩
    · exact .inl (Nat.le_trans a.size h')
    · rcases a.img id0 B0 L0 x e1 e2 e3 with h' | ⟨id1, B1, L1, f1, f2, f3, f4⟩
      · exact .inl h'
      · exact .inr ⟨id1, B1, L1, f1, f2, f3, fun hm => f4 (e4 hm)⟩

structure Ext (φ : Phi) (H : AH) (w : World) (φ' : Phi) (H' : AH) (w' : World) : Prop extends ExtH φ H w.heap φ' H' w'.heap where
  os : w'.os = w.os
  output : w'.output = w.output
  tape : w'.tape = w.tape

theorem Ext.refl (φ : Phi) (H : AH) (w : World) : Ext φ H w φ H w := ⟨ExtH.refl φ H w.heap, rfl, rfl, rfl⟩

theorem Ext.drew {φ : Phi} {H : AH} {w : World} {φ' : Phi} {H' : AH} {w' : World} (h : Ext φ H { w with drawn := w.drawn + 1 } φ' H' w') : Ext φ H w φ' H' w' := ⟨h.toExtH, h.os, h.output, h.tape⟩

theorem Ext.trans {φ : Phi} {H : AH} {w : World} {φ1 : Phi} {H1 : AH} {w1 : World} {φ2 : Phi} {H2 : AH} {w2 : World} (a : Ext φ H w φ1 H1 w1) (b : Ext φ1 H1 w1 φ2 H2 w2) : Ext φ H w φ2 H2 w2 :=
  ⟨a.toExtH.trans b.toExtH, b.os.trans a.os, b.output.trans a.output, b.tape.trans a.tape⟩

theorem MemRep.of_heap {φ : Phi} {heap heap' : Array Obj} {ms : List SK} {own : Bool} {len : Nat} {hi : Nat → Int} {v : Value} (h : MemRep φ heap ms own len hi v) (he : ∀ b, footV v b → heap'[b]? = heap[b]?) : MemRep φ heap' ms own len hi v := by
  rcases h with h | ⟨b, o, cap, cs, t, fr, hv, h1, h2, h3, h4⟩
  · exact .inl h
  · exact .inr ⟨b, o, cap, cs, t, fr, hv, h1, h2, by rw [he b ⟨_, _, _, hv, h1, rfl⟩]; exact h3, h4⟩

theorem MemRep.mono {φ : Phi} (ψ : Phi) {heap : Array Obj} {ms : List SK} {own : Bool} {len : Nat} {hi : Nat → Int} {v : Value} (h : MemRep φ heap ms own len hi v) : MemRep (φ ++ ψ) heap ms own len hi v := by
  rcases h with h | ⟨b, o, cap, cs, t, fr, hv, h1, h2, h3, h4, h5, h6⟩
  · exact .inl h
  · exact .inr ⟨b, o, cap, cs, t, fr, hv, h1, h2, h3, h4, h5, fun j c sk hj hc => let ⟨u, e1, e2⟩ := h6 j c sk hj hc; ⟨u, e1, relS.mono ψ e2⟩⟩

theorem MemRep.lt {φ : Phi} {heap : Array Obj} {ms : List SK} {own : Bool} {len : Nat} {hi : Nat → Int} {v : Value} (h : MemRep φ heap ms own len hi v) {b : Nat} (hf : footV v b) : b < heap.size := by
  obtain ⟨a, l, c, rfl, hc, rfl⟩ := hf
  rcases h with ⟨_, a', e⟩ | ⟨b, o, cap, cs, t, fr, hv, h1, h2, h3, _⟩
  · cases e; omega
  · cases hv
    rcases Nat.lt_or_ge b heap.size with h' | h'
    · exact h'
    · simp [Array.getElem?_eq_none h'] at h3

theorem RepB.of_heap {φ : Phi} {L : Loc} {heap heap' : Array Obj} {B : Blk} (h : RepB φ L heap B) (he : ∀ b, B.foot φ L b → heap'[b]? = heap[b]?) : RepB φ L heap' B := by
  cases B with
  | cells l =>
    obtain ⟨h1, h2, h3⟩ := h
    refine ⟨h1, h2, ?_⟩
    rcases Nat.eq_zero_or_pos L.sz with h0 | h0
    · exact .inl h0
    · rw [he L.b ⟨h0, rfl⟩]; exact h3
  | roc l =>
    obtain ⟨h1, h2, h3⟩ := h
    refine ⟨h1, h2, ?_⟩
    rcases Nat.eq_zero_or_pos L.sz with h0 | h0
    · exact .inl h0
    · rw [he L.b ⟨h0, rfl⟩]; exact h3
  | rows ks n g own =>
    obtain ⟨hn, h1, h3⟩ := h
    refine ⟨hn, h1, ?_⟩
    rcases Nat.eq_zero_or_pos L.sz with h0 | h0
    · exact .inl h0
    · rw [he L.b ⟨h0, rfl⟩]; exact h3
  | nrows ks c0 ms n g h' F ow own =>
    obtain ⟨hn, h1, h2, LF, hF, h3, h4, h5⟩ := h
    refine ⟨hn, h1, h2, LF, hF, ?_, fun i hi ho => ⟨(h4 i hi ho).1, (h4 i hi ho).2.of_heap fun b hb => he b (.inr ⟨LF, i, hF, hi, ho, hb⟩)⟩, h5⟩
    rcases Nat.eq_zero_or_pos L.sz with h0 | h0
    · exact .inl h0
    · rw [he L.b (.inl ⟨h0, rfl⟩)]; exact h3

theorem RepB.mono {φ : Phi} (ψ : Phi) {L : Loc} {heap : Array Obj} {B : Blk} (h : RepB φ L heap B) : RepB (φ ++ ψ) L heap B := by
  cases B with
  | cells l =>
    obtain ⟨h1, h2, h3⟩ := h
    exact ⟨h1, h2, h3.imp id fun ⟨cs, t, h3, h4⟩ => ⟨cs, t, h3, h4.mono fun _ _ h => relS.mono ψ h⟩⟩
  | roc l =>
    obtain ⟨h1, h2, h3⟩ := h
    exact ⟨h1, h2, h3.imp id fun ⟨cs, t, h3, h4⟩ => ⟨cs, t, h3, h4.mono fun _ _ h => relS.mono ψ h⟩⟩
  | rows ks n g own =>
    obtain ⟨hn, h1, h2⟩ := h
    exact ⟨hn, h1, h2.imp id fun ⟨cs, t, fr, h2, h3, h4, h5⟩ => ⟨cs, t, fr, h2, h3, h4, fun i c sk hi hc => let ⟨v, e1, e2⟩ := h5 i c sk hi hc; ⟨v, e1, relS.mono ψ e2⟩⟩⟩
  | nrows ks c0 ms n g h' F ow own =>
    obtain ⟨hn, h1, h2, LF, hF, h3, h4, h5⟩ := h
    exact ⟨hn, h1, h2, LF, get_prefix hF, h3.imp id fun ⟨cs, t, fr, k2, k3, k4, k5⟩ => ⟨cs, t, fr, k2, k3, k4, fun i c sk hi hc => let ⟨v, e1, e2, e3⟩ := k5 i c sk hi hc; ⟨v, e1, fun hne => relS.mono ψ (e2 hne), e3⟩⟩,
      fun i hi ho => ⟨(h4 i hi ho).1, (h4 i hi ho).2.mono ψ⟩, h5⟩

theorem RepB.foot_iff {φ : Phi} (ψ : Phi) {L : Loc} {heap : Array Obj} {B : Blk} (h : RepB φ L heap B) (b : Nat) : B.foot (φ ++ ψ) L b ↔ B.foot φ L b := by
  cases B with
  | nrows ks c0 ms n g h' F ow own =>
    obtain ⟨_, _, _, LF, hF, _⟩ := h
    constructor
    · rintro (h | ⟨LF', i, h1, h2⟩)
      · exact .inl h
      · rw [get_prefix hF] at h1; cases h1
        exact .inr ⟨LF, i, hF, h2⟩
    · rintro (h | ⟨LF', i, h1, h2⟩)
      · exact .inl h
      · exact .inr ⟨LF', i, get_prefix h1, h2⟩
  | _ => exact Iff.rfl

theorem RepB.lt {φ : Phi} {L : Loc} {heap : Array Obj} {B : Blk} (h : RepB φ L heap B) {b : Nat} (hf : B.foot φ L b) : b < heap.size := by
  have key : ∀ {b : Nat} {o : Obj}, heap[b]? = some o → b < heap.size := by
    intro b o ho
    rcases Nat.lt_or_ge b heap.size with h' | h'
    · exact h'
    · simp [Array.getElem?_eq_none h'] at ho
  cases B with
  | cells l => obtain ⟨h0, rfl⟩ := hf; obtain ⟨_, _, h3 | ⟨cs, t, h3, _⟩⟩ := h; omega; exact key h3
  | roc l => obtain ⟨h0, rfl⟩ := hf; obtain ⟨_, _, h3 | ⟨cs, t, h3, _⟩⟩ := h; omega; exact key h3
  | rows ks n g own => obtain ⟨h0, rfl⟩ := hf; obtain ⟨_, _, h3 | ⟨cs, t, fr, h2, _⟩⟩ := h; omega; exact key h2
  | nrows ks c0 ms n g h' F ow own =>
    obtain ⟨_, _, _, LF, hF, h3, h4, _⟩ := h
    rcases hf with ⟨h0, rfl⟩ | ⟨LF', i, h1, h2, ho, hb⟩
    · rcases h3 with h3 | ⟨cs, t, fr, h2, _⟩
      · omega
      · exact key h2
    · rw [hF] at h1; cases h1
      exact (h4 i h2 ho).2.lt hb

theorem Rep.of_heap {φ : Phi} {H : AH} {heap heap' : Array Obj} (h : Rep φ H heap) (he : ∀ b, b < heap.size → heap'[b]? = heap[b]?) : Rep φ H heap' :=
  ⟨h.len, fun id B hB => let ⟨L, h1, h2⟩ := h.blk id B hB; ⟨L, h1, h2.of_heap fun _ hf => he _ (h2.lt hf)⟩, h.apart⟩

theorem rep_step {φ ψ : Phi} {H H' : AH} {heap heap' : Array Obj} (W N : Nat → Prop) (h : Rep φ H heap) (hlen : (φ ++ ψ).length = H'.length) (hsz : heap.size ≤ heap'.size)
    (same : ∀ b, b < heap.size → ¬ W b → heap'[b]? = heap[b]?)
    (hW : ∀ b, b < heap.size → W b → ∃ (id : Nat) (B : Blk) (L : Loc), H[id]? = some (some B) ∧ B.mut = true ∧ φ[id]? = some L ∧ B.foot φ L b)
    (old : ∀ (id : Nat) (B : Blk), H'[id]? = some (some B) → ¬ N id → H[id]? = some (some B) ∧ ∀ L b, φ[id]? = some L → B.foot φ L b → ¬ W b)
    (new : ∀ (id : Nat) (B : Blk), H'[id]? = some (some B) → N id → ∃ L, (φ ++ ψ)[id]? = some L ∧ RepB (φ ++ ψ) L heap' B ∧ ∀ b, B.foot (φ ++ ψ) L b → W b ∨ heap.size ≤ b)
    (apart : ∀ (id id' : Nat) (B B' : Blk) (L L' : Loc) (b : Nat), N id → N id' → H'[id]? = some (some B) → H'[id']? = some (some B') → (φ ++ ψ)[id]? = some L → (φ ++ ψ)[id']? = some L' → id ≠ id' → B.foot (φ ++ ψ) L b → B'.foot (φ ++ ψ) L' b → False) :
    Rep (φ ++ ψ) H' heap' ∧ ExtH φ H heap (φ ++ ψ) H' heap' := by
  have olds : ∀ (id : Nat) (B : Blk), H'[id]? = some (some B) → ¬ N id → ∃ L, H[id]? = some (some B) ∧ φ[id]? = some L ∧ (φ ++ ψ)[id]? = some L ∧ RepB φ L heap B ∧ (∀ b, B.foot (φ ++ ψ) L b ↔ B.foot φ L b) ∧ ∀ b, B.foot φ L b → ¬ W b := by
    intro id B hB hN
    obtain ⟨g1, g2⟩ := old id B hB hN
    obtain ⟨L, h1, h2⟩ := h.blk id B g1
    exact ⟨L, g1, h1, get_prefix h1, h2, h2.foot_iff ψ, fun b => g2 L b h1⟩
  refine ⟨⟨hlen, ?_, ?_⟩, ⟨hsz, ⟨ψ, rfl⟩, ?_, ?_⟩⟩
  · intro id B hB
    by_cases hN : N id
    · obtain ⟨L, h1, h2, _⟩ := new id B hB hN
      exact ⟨L, h1, h2⟩
    · obtain ⟨L, _, e1, e2, e3, _, e5⟩ := olds id B hB hN
      exact ⟨L, e2, (e3.of_heap fun b hb => same b (e3.lt hb) (e5 b hb)).mono ψ⟩
  · intro id id' B B' L L' b hB hB' hL hL' hne hm z z'
    have mixed : ∀ {id id' : Nat} {B B' : Blk} {L L' : Loc}, H'[id]? = some (some B) → H'[id']? = some (some B') → (φ ++ ψ)[id]? = some L → (φ ++ ψ)[id']? = some L' → ¬ N id → N id' → B.foot (φ ++ ψ) L b → B'.foot (φ ++ ψ) L' b → False := by
      intro id id' B B' L L' hB hB' hL hL' h1 h2 z z'
      obtain ⟨L1, e0, e1, e2, e3, e4, e5⟩ := olds id B hB h1
      rw [e2] at hL; cases hL
      obtain ⟨L2, f1, f2, f3⟩ := new id' B' hB' h2
      rw [f1] at hL'; cases hL'
      have z0 := (e4 b).1 z
      rcases f3 b z' with hw | hw
      · exact e5 b z0 hw
      · have := e3.lt z0; omega
    by_cases h1 : N id
    · by_cases h2 : N id'
      · exact apart id id' B B' L L' b h1 h2 hB hB' hL hL' hne z z'
      · exact mixed hB' hB hL' hL h2 h1 z' z
    · by_cases h2 : N id'
      · exact mixed hB hB' hL hL' h1 h2 z z'
      · obtain ⟨L1, e0, e1, e2, e3, e4, e5⟩ := olds id B hB h1
        rw [e2] at hL; cases hL
        obtain ⟨L2, f0, f1, f2, f3, f4, f5⟩ := olds id' B' hB' h2
        rw [f2] at hL'; cases hL'
        exact h.apart id id' B B' _ _ b e0 f0 e1 f1 hne hm ((e4 b).1 z) ((f4 b).1 z')
  · intro b hb hn
    refine same b hb fun hw => ?_
    obtain ⟨id, B, L, h1, h2, h3, h4⟩ := hW b hb hw
    exact hn id B L h1 h2 h3 h4
  · intro id B L b hB hL hf
    by_cases hN : N id
    · obtain ⟨L1, h1, h2, h3⟩ := new id B hB hN
      rw [h1] at hL; cases hL
      rcases h3 b hf with hw | hw
      · by_cases hlt : b < heap.size
        · obtain ⟨id0, B0, L0, g1, g2, g3, g4⟩ := hW b hlt hw
          exact .inr ⟨id0, B0, L0, g1, g3, g4, fun _ => g2⟩
        · exact .inl (by omega)
      · exact .inl hw
    · obtain ⟨L1, e0, e1, e2, e3, e4, e5⟩ := olds id B hB hN
      rw [e2] at hL; cases hL
      exact .inr ⟨id, B, _, e0, e1, (e4 b).1 hf, fun h => h⟩

end Go.AM
end

/-
  The abstract machine, part 2: one operation. Definitions.
-/
section
namespace Go.AM

inductive Tr (α : Type) where
  | ok (a : α)
  | br (g : Nat) (c : Bool) (t e : Tr α)
  | no

def Tr.bind {α β : Type} : Tr α → (α → Tr β) → Tr β
  | .ok a, f => f a
  | .br g c t e, f => .br g c (t.bind f) (e.bind f)
  | .no, _ => .no

def Tr.val {α : Type} : Tr α → Option α
  | .ok a => some a
  | .br _ c t e => match c with
    | true => t.val
    | false => e.val
  | .no => none

def Tr.sat {α : Type} (t : Tr α) (Q : α → Prop) : Prop := ∃ a, t.val = some a ∧ Q a

theorem Tr.val_bind {α β : Type} (t : Tr α) (f : α → Tr β) : (t.bind f).val = t.val.bind fun a => (f a).val := by
  induction t with
  | ok a => rfl
  | br g c t e iht ihe => cases c <;> simp only [Tr.bind, Tr.val, iht, ihe]
  | no => rfl

theorem Tr.sat_ok {α : Type} {a : α} {Q : α → Prop} : (Tr.ok a).sat Q ↔ Q a := by simp [Tr.sat, Tr.val]
theorem Tr.sat_no {α : Type} {Q : α → Prop} : (Tr.no : Tr α).sat Q ↔ False := by simp [Tr.sat, Tr.val]
theorem Tr.sat_br {α : Type} {g : Nat} {c : Bool} {t e : Tr α} {Q : α → Prop} : (Tr.br g c t e).sat Q ↔ (c = true → t.sat Q) ∧ (c = false → e.sat Q) := by
  cases c <;> simp [Tr.sat, Tr.val]
def chk {α : Type} (y : Option Nat) (c : Bool) (t : Tr α) : Tr α :=
  match y with
  | some g => .br g c t .no
  | none => match c with
    | true => t
    | false => .no

theorem val_chk {α : Type} {y : Option Nat} {c : Bool} {t : Tr α} {a : α} (h : (chk y c t).val = some a) : c = true ∧ t.val = some a := by
  cases y <;> cases c <;> simp [chk, Tr.val] at h ⊢ <;> exact h

def capB (b : Nat) : Nat := match Nat.beq b 64 with
  | true => 2199023255552
  | false => 1073741824
theorem capB_big (b : Nat) : capB b ≤ 2199023255552 := by unfold capB; split <;> decide
theorem capB_fit {b k : Nat} (hb : b ≤ 1024) (hk : k ≤ capB b) : k * b ≤ 140737488355328 := by
  unfold capB at hk
  split at hk
  · rename_i h
    have e := Nat.eq_of_beq_eq_true h
    subst e
    omega
  · have : k * b ≤ 1073741824 * 1024 := Nat.mul_le_mul hk hb
    omega
def chkB {α : Type} (y : Option Nat) (b : Nat) (f : Nat → Bool) (t : Tr α) : Tr α := match Nat.beq b 64 with
  | true => chk y (f 2199023255552) t
  | false => chk y (f 1073741824) t
theorem val_chkB {α : Type} {y : Option Nat} {b : Nat} {f : Nat → Bool} {t : Tr α} {a : α} (h : (chkB y b f t).val = some a) : f (capB b) = true ∧ t.val = some a := by
  unfold chkB at h
  unfold capB
  cases hb : Nat.beq b 64 with
  | true => rw [hb] at h; exact val_chk h
  | false => rw [hb] at h; exact val_chk h
theorem chkB_none {α : Type} {b : Nat} {f : Nat → Bool} {t : Tr α} (h : f (capB b) = true) : chkB none b f t = t := by
  unfold chkB
  unfold capB at h
  cases hb : Nat.beq b 64 with
  | true => rw [hb] at h; simp only [chk]; rw [h]
  | false => rw [hb] at h; simp only [chk]; rw [h]

def forceL {α β : Type} : List α → (List α → β) → β
  | [], k => k []
  | x :: xs, k => forceL xs fun ys => k (x :: ys)

theorem forceL_eq {α β : Type} : ∀ (l : List α) (k : List α → β), forceL l k = k l
  | [], _ => rfl
  | x :: xs, k => by rw [forceL, forceL_eq xs]

def opt {α : Type} : Option α → Tr α
  | some a => .ok a
  | none => .no

theorem val_opt {α : Type} (o : Option α) : (opt o).val = o := by cases o <;> rfl

/-! ### Values that stand in the program's text -/

def absS : Value → Option AS
  | .bool b => some (.b b)
  | .int k n => some (.n k n)
  | .pointer none => some .pnil
  | .slice none 0 0 => some .slnil
  | .string s => some (.str s.data.toList)
  | .nilFunc => some .fnil
  | _ => none

def absL : List Value → Option (List AS)
  | [] => some []
  | v :: vs => match absS v with
    | some a => match absL vs with
      | some as => some (a :: as)
      | none => none
    | none => none

def absV : Value → Option AV
  | .agg cs => (absL cs.toList).map .agg
  | v => (absS v).map .s

theorem absS_rel {φ : Phi} {v : Value} {a : AS} (h : absS v = some a) : relS φ a v := by
  unfold absS at h
  split at h <;> simp at h <;> subst h <;> simp [relS]

theorem absL_rel {φ : Phi} : ∀ {vs : List Value} {as : List AS}, absL vs = some as → All2 (relS φ) as vs
  | [], as, h => by simp [absL] at h; subst h; trivial
  | v :: vs, as, h => by
    simp only [absL] at h
    cases ha : absS v with
    | none => simp [ha] at h
    | some a =>
      cases hl : absL vs with
      | none => simp [ha, hl] at h
      | some l => simp [ha, hl] at h; subst h; exact ⟨absS_rel ha, absL_rel hl⟩

theorem absV_rel {φ : Phi} {v : Value} {a : AV} (h : absV v = some a) : relA φ a v := by
  unfold absV at h
  split at h
  · rename_i cs
    cases hl : absL cs.toList with
    | none => simp [hl] at h
    | some l => simp [hl] at h; subst h; exact ⟨cs, rfl, absL_rel hl⟩
  · obtain ⟨s, hs, rfl⟩ := Option.map_eq_some_iff.1 h
    exact absS_rel hs

def unk : TV → TV
  | .k b => .v (.s (.b b))
  | x => x

def evalT (tm : List TV) : Operand → TV
  | .tmp t => unk (tm.getD t (.tup []))
  | .const v => match absV v with
    | some a => .v a
    | none => .any
  | .global _ => .any
  | .func f => .v (.s (.fn f []))

/-! ### Types -/

def aggT (P : Program) (t : TypeId) : Option Bool :=
  match P.underlying t with
  | some (.struct _) | some (.array _ _) => some true
  | some _ => some false
  | none => none

def sizeT (P : Program) (t : TypeId) : Option Nat := (P.info? t).map (·.size)

def zeroT (P : Program) (t : TypeId) : Option (List AS) :=
  match P.info? t with
  | some i => match i.zero with
    | some z => (absV z).map AV.cells
    | none => none
  | none => none

def kindOf : AS → Option SK
  | .b false => some .b
  | .n k x => if x = 0 then some (.n k) else none
  | _ => none

def asInt : SK → AS → Option Int
  | .n k, .n k' x => if k = k' then some x else none
  | .b, .b y => some (cond y 1 0)
  | _, _ => none

/-! ### one of several equal parts, that is not told -/

def selY : Option Nat → Bool
  | some g => Nat.ble 200000 g
  | none => false

def skOf : AS → Option SK
  | .b _ => some .b
  | .n k _ => some (.n k)
  | _ => none

def colI (sk : SK) (l : List AS) (n : Nat) : (len o : Nat) → Option (List Int)
  | 0, _ => some []
  | m + 1, o => match l[o]? with
    | some a => match asInt sk a with
      | some x => match colI sk l n m (o + n) with
        | some xs => some (x :: xs)
        | none => none
      | none => none
    | none => none

def selS (l : List AS) (o n len j : Nat) : Option AS :=
  match l[o]? with
  | some a => match skOf a with
    | some sk => match colI sk l n len o with
      | some xs => some (mkS sk (xs.getD j 0))
      | none => none
    | none => none
  | none => none

def selSs (l : List AS) (n len j : Nat) : (m o : Nat) → Option (List AS)
  | 0, _ => some []
  | m + 1, o => match selS l o n len j with
    | some a => match selSs l n len j m (o + 1) with
      | some r => some (a :: r)
      | none => none
    | none => none

def putCol (sk : SK) (n j : Nat) (x : Int) : (xs : List Int) → (j' o : Nat) → List AS → List AS
  | [], _, _, l => l
  | y :: ys, j', o, l => putCol sk n j x ys (j' + 1) (o + n) (l.set o (mkS sk (bif Nat.beq j j' then x else y)))

def setX (l : List AS) (o n len j : Nat) (a : AS) : Option (List AS) :=
  match l[o]? with
  | some b => match skOf b with
    | some sk => match asInt sk a with
      | some x => match colI sk l n len o with
        | some xs => some (putCol sk n j x xs 0 o l)
        | none => none
      | none => none
    | none => none
  | none => none

def setXs (n len j : Nat) : List AS → (o : Nat) → List AS → Option (List AS)
  | [], _, l => some l
  | a :: as, o, l => match setX l o n len j a with
    | some l' => setXs n len j as (o + 1) l'
    | none => none

def allK (sk : SK) (ks : List SK) (n : Nat) : (len o : Nat) → Bool
  | 0, _ => true
  | m + 1, o => match ks[o]? with
    | some k => match decide (k = sk) with
      | true => allK sk ks n m (o + n)
      | false => false
    | none => false

def kindX (ks : List SK) (n len o : Nat) : Option SK :=
  match ks[o]? with
  | some sk => match allK sk ks n len o with
    | true => some sk
    | false => none
  | none => none

def rowCellsX (ks : List SK) (g : Nat → Int) (n len j : Nat) : (m o : Nat) → Option (List AS)
  | 0, _ => some []
  | m + 1, o => match kindX ks n len o with
    | some sk => match rowCellsX ks g n len j m (o + 1) with
      | some r => some (mkS sk (g (o + j * n)) :: r)
      | none => none
    | none => none

def kindsL : List AS → Option (List SK)
  | [] => some []
  | a :: as => match kindOf a with
    | some k => match kindsL as with
      | some ks => some (k :: ks)
      | none => none
    | none => none

def kindsT (P : Program) (t : TypeId) : Option (List SK) := (zeroT P t).bind kindsL

def partA (P : Program) (t : TypeId) (cs : List AS) (off : Nat) : Option AV :=
  match aggT P t with
  | some true => match sizeT P t with
    | some n => some (.agg ((cs.drop off).take n))
    | none => none
  | some false => (cs[off]?).map .s
  | none => none

/-! ### Equality -/

def eqFs (eq : TypeId → AV → AV → Option Bool) (pt : TypeId → List AS → Nat → Option AV) (xs ys : List AS) : List Field → Option Bool
  | [] => some true
  | f :: fs =>
    if f.name = "_" then eqFs eq pt xs ys fs
    else match pt f.type xs f.offset, pt f.type ys f.offset with
      | some a, some b => match eq f.type a b, eqFs eq pt xs ys fs with
        | some p, some q => some (p && q)
        | _, _ => none
      | _, _ => none

def eqIs (eq : AV → AV → Option Bool) (pt : List AS → Nat → Option AV) (xs ys : List AS) (n : Nat) : (count i : Nat) → Option Bool
  | 0, _ => some true
  | c + 1, i => match pt xs (i * n), pt ys (i * n) with
    | some a, some b => match eq a b, eqIs eq pt xs ys n c (i + 1) with
      | some p, some q => some (p && q)
      | _, _ => none
    | _, _ => none

def eqA (P : Program) : Nat → TypeId → AV → AV → Option Bool
  | 0, _, _, _ => none
  | d + 1, t, x, y =>
    match P.underlying t, x, y with
    | some .bool, .s (.b a), .s (.b b) => some (a == b)
    | some (.int _), .s (.n k a), .s (.n k' b) => if k = k' then some (a == b) else none
    | some .string, .s (.str a), .s (.str b) => some (a == b)
    | some (.pointer _), .s .pnil, .s .pnil => some true
    | some (.pointer _), .s (.p _ _), .s .pnil => some false
    | some (.pointer _), .s .pnil, .s (.p _ _) => some false
    | some (.pointer _), .s (.pr _ _ _ _), .s .pnil => some false
    | some (.slice _), .s .slnil, .s .slnil => some true
    | some (.slice _), .s (.slz _ _ _ _), .s .slnil => some false
    | some (.struct fs), .agg xs, .agg ys => if P.stoodInHeld t then none else eqFs (eqA P d) (partA P) xs ys fs.toList
    | some (.array len e), .agg xs, .agg ys => match sizeT P e with
      | some n => eqIs (eqA P d e) (partA P e) xs ys n len 0
      | none => none
    | _, _, _ => none

/-! ### Operations that do not look at the memory -/

def tvb (b : Bool) : TV := .v (.s (.b b))
def tvn (k : IntKind) (n : Int) : TV := .v (.s (.n k n))

def splitI (g : Nat) (k : IntKind) : (n : Nat) → (lo x : Int) → Tr TV
  | 0, _, _ => .no
  | n + 1, lo, x => .br g (x == lo) (.ok (tvn k lo)) (splitI g k n (lo + 1) x)

def apartN (y : Option Nat) (k : IntKind) (n : Nat) (lo x : Int) : Tr TV :=
  match y with
  | some g => match Nat.ble 100000 g with
    | true => splitI g k n lo x
    | false => .ok (tvn k x)
  | none => .ok (tvn k x)

def splitTV (y : Option Nat) (a : TV) : Tr TV :=
  match y with
  | some g => match Nat.ble 100000 g with
    | true => match a with
      | .v (.s (.n k x)) => splitI g k 16 0 x
      | _ => .no
    | false => .ok a
  | none => .ok a

def plainY : Option Nat → Option Nat
  | some g => match Nat.ble 100000 g with
    | true => none
    | false => some g
  | none => none

def intOp (y : Option Nat) (op : BinOp) (k : IntKind) (a b : Int) : Tr TV :=
  match op with
  | .add => .ok (tvn k (k.wrap (a + b)))
  | .sub => .ok (tvn k (k.wrap (a - b)))
  | .mul => .ok (tvn k (k.wrap (a * b)))
  | .quo => chk y (b != 0) (.ok (tvn k (k.wrap (a.tdiv b))))
  | .rem => chk (plainY y) (b != 0) (apartN y k (2 * b.natAbs - 1) (1 - (b.natAbs : Int)) (a.tmod b))
  | .and => .ok (tvn k (bits .and k a b))
  | .or => .ok (tvn k (bits .or k a b))
  | .xor => .ok (tvn k (bits .xor k a b))
  | .andNot => .ok (tvn k (bits .andNot k a b))
  | .eql => .ok (tvb (a == b))
  | .neq => .ok (tvb (a != b))
  | .lss => .ok (tvb (decide (a < b)))
  | .leq => .ok (tvb (decide (a ≤ b)))
  | .gtr => .ok (tvb (decide (a > b)))
  | .geq => .ok (tvb (decide (a ≥ b)))
  | _ => .no

def shiftN (k : IntKind) (b : Int) : Nat := min b.toNat k.bits

def eqAny (P : Program) (neg : Bool) (t : TypeId) (x y : AV) : Option TV :=
  match x, y with
  | .agg xs, .agg ys => if P.eqGuardType P.depth t then none else
    match eqA P 10000 t (.agg xs) (.agg ys) with
    | some r => some (tvb (cond neg (!r) r))
    | none => none
  | x, y => match eqA P 10000 t x y with
    | some r => some (tvb (cond neg (!r) r))
    | none => none

def binO (P : Program) (y : Option Nat) (op : BinOp) (t : TypeId) (u v : TV) : Tr TV :=
  match u, v with
  | .v (.s (.n k a)), .v (.s (.n k' b)) =>
    match op with
    | .shl => chk y (decide (0 ≤ b)) (.ok (tvn k (k.wrap (a * 2 ^ shiftN k b))))
    | .shr => chk y (decide (0 ≤ b)) (.ok (tvn k (a.fdiv (2 ^ shiftN k b))))
    | op => if k = k' then intOp y op k a b else .no
  | .v (.s (.str a)), .v (.s (.str b)) =>
    match op with
    | .eql => .ok (tvb (a == b))
    | .neq => .ok (tvb (!(a == b)))
    | _ => .no
  | .v x, .v z =>
    match op with
    | .eql => opt (eqAny P false t x z)
    | .neq => opt (eqAny P true t x z)
    | _ => .no
  | _, _ => .no

def nilT (P : Program) (y : Option Nat) (op : BinOp) (t : TypeId) (u v : TV) : Option (Tr TV) :=
  match u, v with
  | .v (.s (.slw _ _ n)), .v (.s .slnil) => match P.underlying t, op with
    | some (.slice _), .eql => some (chk y (Nat.blt 0 n) (.ok (tvb false)))
    | some (.slice _), .neq => some (chk y (Nat.blt 0 n) (.ok (tvb true)))
    | _, _ => none
  | _, _ => none

def binT (P : Program) (y : Option Nat) (op : BinOp) (t : TypeId) (u v : TV) : Tr TV :=
  match nilT P y op t u v with
  | some r => r
  | none => binO P y op t u v

def unT (op : UnOp) (u : TV) : Tr TV :=
  match op, u with
  | .neg, .v (.s (.n k n)) => .ok (tvn k (k.wrap (0 - n)))
  | .xor, .v (.s (.n k n)) => .ok (tvn k (bits .xor k (if k.signed then -1 else k.max) n))
  | .not, .v (.s (.b b)) => .ok (tvb (!b))
  | _, _ => .no

def pickT (x : Bool) (u v : TV) : Tr TV :=
  match u, v with
  | .v (.s (.b p)), .v (.s (.b q)) => .ok (tvb (cond x p q))
  | .v (.s (.n k p)), .v (.s (.n k' q)) => if k = k' then .ok (tvn k (cond x p q)) else .no
  | u, v => match x with
    | true => .ok u
    | false => .ok v

def setAll (l : List AS) (o : Nat) (vs : List AS) : List AS := l.take o ++ vs ++ l.drop (o + vs.length)

def fillA (place : Nat → Option (Nat × Nat)) (cells : List AS) : List (Nat × AV) → Option (List AS)
  | [] => some cells
  | (i, v) :: rest => match place i with
    | none => none
    | some (off, size) => if v.cells.length = size ∧ off + size ≤ cells.length then fillA place (setAll cells off v.cells) rest else none

def partsT (ρ : Operand → TV) : List (Nat × Operand) → Option (List (Nat × AV))
  | [] => some []
  | (i, x) :: rest => match ρ x with
    | .v a => match partsT ρ rest with
      | some r => some ((i, a) :: r)
      | none => none
    | _ => none

def placesT (P : Program) : List Field → Option (List (Nat × Nat))
  | [] => some []
  | f :: fs => match sizeT P f.type with
    | some n => match placesT P fs with
      | some r => some ((f.offset, n) :: r)
      | none => none
    | none => none

def buildT (P : Program) (t : TypeId) (parts : List (Nat × AV)) : Option TV :=
  match zeroT P t with
  | none => none
  | some zero => match P.underlying t with
    | some (.struct fs) => match placesT P fs.toList with
      | some ps => (fillA (ps[·]?) zero parts).map fun l => .v (.agg l)
      | none => none
    | some (.array _ e) => match sizeT P e with
      | some n => (fillA (fun i => some (i * n, n)) zero parts).map fun l => .v (.agg l)
      | none => none
    | _ => none

def fieldAddrT (P : Program) (s : TypeId) (x : TV) (f : Nat) : Option TV :=
  match P.underlying s with
  | some (.struct fs) => match fs.toList[f]? with
    | some fd => match sizeT P fd.type with
      | some 0 => none
      | some _ => match x with
        | .v (.s (.p id o)) => some (.v (.s (.p id (o + fd.offset))))
        | .v (.s (.pr id wd i c)) => some (.v (.s (.pr id wd i (c + fd.offset))))
        | .v (.s (.px id wd i o n len j c)) => some (.v (.s (.px id wd i o n len j (c + fd.offset))))
        | .v (.s (.mpx id F wd i j o n len jj c)) => some (.v (.s (.mpx id F wd i j o n len jj (c + fd.offset))))
        | _ => none
      | none => none
    | none => none
  | _ => none

def fieldT (P : Program) (s : TypeId) (x : TV) (f : Nat) : Option TV :=
  match P.underlying s with
  | some (.struct fs) => match fs.toList[f]? with
    | some fd => match x with
      | .v (.agg l) => (partA P fd.type l fd.offset).map .v
      | _ => none
    | none => none
  | _ => none

def within (i : Int) (n : Nat) : Bool := decide (0 ≤ i) && decide (i < (n : Int))

def indexAddrT (P : Program) (y : Option Nat) (t : TypeId) (x ix : TV) : Tr TV :=
  match ix with
  | .v (.s (.n _ i)) =>
    match P.underlying t with
    | some (.array len e) => match sizeT P e with
      | some n => match x with
        | .v (.s (.p id o)) => chk y (within i len) (.ok (.v (.s (.p id (o + i.toNat * n)))))
        | .v (.s (.pr id wd r c)) => chk y (within i len) (.ok (.v (.s (.pr id wd r (c + i.toNat * n)))))
        | .v (.s (.mpx id F wd r j o n' len' jj c)) => chk y (within i len) (.ok (.v (.s (.mpx id F wd r j o n' len' jj (c + i.toNat * n)))))
        | _ => .no
      | none => .no
    | some (.slice e) => match sizeT P e with
      | some n => match x with
        | .v (.s (.sl id wd o len)) => if wd = n then chk y (within i len) (.ok (.v (.s (.p id (o + i.toNat * n))))) else .no
        | .v (.s (.slr id wd r len _)) => if wd = n then chk y (within i len) (.ok (.v (.s (.pr id wd (r + i.toNat) 0)))) else .no
        | .v (.s (.slc id wd r len)) => if wd = n then chk y (within i len) (.ok (.v (.s (.pr id wd (r + i.toNat) 0)))) else .no
        | .v (.s (.slq id wd r len)) => if wd = n then chk y (within i len) (.ok (.v (.s (.pr id wd (r + i.toNat) 0)))) else .no
        | .v (.s (.slw id wd len)) => if wd = n then chk y (within i len) (.ok (.v (.s (.pr id wd i.toNat 0)))) else .no
        | .v (.s (.slz id wd r len)) => if wd = n then chk y (within i len) (.ok (.v (.s (.pr id wd (r + i.toNat) 0)))) else .no
        | .v (.s (.mem id F wd r len)) => if wd = n then chk y (within i len) (.ok (.v (.s (.mpx id F wd r i.toNat 0 1 1 0 0)))) else .no
        | .v (.s (.mems id F wd r lo len)) => if wd = n then chk y (within i len) (.ok (.v (.s (.mpx id F wd r (lo + i.toNat) 0 1 1 0 0)))) else .no
        | _ => .no
      | none => .no
    | _ => .no
  | _ => .no

def indexT (P : Program) (y : Option Nat) (t : TypeId) (x ix : TV) : Tr TV :=
  match ix with
  | .v (.s (.n _ i)) =>
    match P.underlying t with
    | some (.array len e) => match sizeT P e with
      | some n => match x with
        | .v (.agg l) => chk y (within i len) (opt ((partA P e l (i.toNat * n)).map .v))
        | _ => .no
      | none => .no
    | _ => .no
  | _ => .no

def indexAddrX (P : Program) (y : Option Nat) (t : TypeId) (x ix : TV) : Tr TV :=
  match ix with
  | .v (.s (.n _ i)) =>
    match P.underlying t with
    | some (.array len e) => match sizeT P e with
      | some n => match x with
        | .v (.s (.p id o)) => if n = 0 then .no else chk y (within i len) (.ok (.v (.s (.px id 0 0 o n len i.toNat 0))))
        | .v (.s (.pr id wd r c)) => if n = 0 ∨ wd = 0 then .no else chk y (within i len) (.ok (.v (.s (.px id wd r c n len i.toNat 0))))
        | .v (.s (.mpx id F wd r j o _ _ 0 c)) => chk y (within i len) (.ok (.v (.s (.mpx id F wd r j (o + c) n len i.toNat 0))))
        | _ => .no
      | none => .no
    | some (.slice e) => match sizeT P e with
      | some n => match x with
        | .v (.s (.sl id wd o len)) => if wd = n ∧ n ≠ 0 then chk y (within i len) (.ok (.v (.s (.px id 0 0 o n len i.toNat 0)))) else .no
        | _ => .no
      | none => .no
    | _ => .no
  | _ => .no

def indexAddrS (P : Program) (y : Option Nat) (t : TypeId) (x ix : TV) : Tr TV :=
  match selY y with
  | true => indexAddrX P y t x ix
  | false => indexAddrT P y t x ix

def partX (P : Program) (e : TypeId) (l : List AS) (n len j : Nat) : Option AV :=
  match aggT P e with
  | some true => (selSs l n len j n 0).map .agg
  | some false => (selS l 0 n len j).map .s
  | none => none

def indexX (P : Program) (y : Option Nat) (t : TypeId) (x ix : TV) : Tr TV :=
  match ix with
  | .v (.s (.n _ i)) =>
    match P.underlying t with
    | some (.array len e) => match sizeT P e with
      | some n => match x with
        | .v (.agg l) => chk y (within i len) (opt ((partX P e l n len i.toNat).map .v))
        | _ => .no
      | none => .no
    | _ => .no
  | _ => .no

def indexS (P : Program) (y : Option Nat) (t : TypeId) (x ix : TV) : Tr TV :=
  match selY y with
  | true => indexX P y t x ix
  | false => indexT P y t x ix

def intT : TV → Option Int
  | .v (.s (.n _ i)) => some i
  | _ => none

def boundsT (lo hi mx : Option TV) (len cp : Nat) : Option (Int × Int × Int) :=
  match (match mx with | some v => intT v | none => some (cp : Int)) with
  | none => none
  | some m => match (match hi with | some v => intT v | none => (match mx with | none => some (len : Int) | some _ => none)) with
    | none => none
    | some h => match (match lo with | some v => intT v | none => some 0) with
      | none => none
      | some l => some (l, h, m)

def boundsOk (hi mx : Bool) (len cp : Nat) (l h m : Int) : Bool :=
  match mx, hi with
  | true, _ => decide (0 ≤ l) && decide (l ≤ h) && (m == h) && decide (m ≤ (cp : Int))
  | false, true => decide (0 ≤ l) && decide (l ≤ h) && decide (h ≤ (cp : Int))
  | false, false => decide (0 ≤ l) && decide (l ≤ (len : Int))

def full3 : Option TV → Option TV → Option TV → Option (Int × Int × Int)
  | some l, some h, some m => match intT l, intT h, intT m with
    | some l, some h, some m => some (l, h, m)
    | _, _, _ => none
  | _, _, _ => none

def sliceT (P : Program) (y : Option Nat) (t : TypeId) (x : TV) (lo hi mx : Option TV) : Tr TV :=
  match P.underlying t with
  | some (.array n e) => match sizeT P e with
    | some wd => match x, boundsT lo hi mx n n with
      | .v (.s (.p id o)), some (l, h, m) => chk y (boundsOk hi.isSome mx.isSome n n l h m) (.ok (.v (.s (.sl id wd (o + l.toNat * wd) (h.toNat - l.toNat)))))
      | _, _ => .no
    | none => .no
  | some (.slice e) => match sizeT P e with
    | some wd => match x with
      | .v (.s (.sl id wd' o len)) => match boundsT lo hi mx len len with
        | some (l, h, m) => if wd = wd' then chk y (boundsOk hi.isSome mx.isSome len len l h m) (.ok (.v (.s (.sl id wd (o + l.toNat * wd) (h.toNat - l.toNat))))) else .no
        | none => .no
      | .v (.s (.slr id wd' r len cp)) => match boundsT lo hi mx len cp with
        | some (l, h, m) => if wd = wd' then chk y (boundsOk hi.isSome mx.isSome len cp l h m) (.ok (.v (.s (match mx with
            | none => .slr id wd (r + l.toNat) (h.toNat - l.toNat) (cp - l.toNat)
            | some _ => .slc id wd (r + l.toNat) (h.toNat - l.toNat))))) else .no
        | none => .no
      | .v (.s (.slw id wd' len)) => match full3 lo hi mx with
        | some (l, h, m) => if wd = wd' then chk y (decide (0 ≤ l) && decide (l ≤ h) && decide (h ≤ m) && decide (m ≤ (len : Int))) (.ok (.v (.s (.slr id wd (0 + l.toNat) (h.toNat - l.toNat) (m.toNat - l.toNat))))) else .no
        | none => match boundsT lo hi mx len len with
          | some (l, h, m) => if wd = wd' then chk y (boundsOk hi.isSome mx.isSome len len l h m) (.ok (.v (.s (match mx with
              | none => .slr id wd (0 + l.toNat) (h.toNat - l.toNat) (len - l.toNat)
              | some _ => .slc id wd (0 + l.toNat) (h.toNat - l.toNat))))) else .no
          | none => .no
      | .v (.s (.slc id wd' r len)) => match boundsT lo hi mx len len with
        | some (l, h, m) => if wd = wd' then chk y (boundsOk hi.isSome mx.isSome len len l h m) (.ok (.v (.s (match mx with
            | none => .slr id wd (r + l.toNat) (h.toNat - l.toNat) (len - l.toNat)
            | some _ => .slc id wd (r + l.toNat) (h.toNat - l.toNat))))) else .no
        | none => .no
      | .v (.s (.slk id wd' len cp)) => match boundsT lo hi mx len cp, mx with
        | some (l, h, m), none => if wd = wd' then chk y (boundsOk hi.isSome mx.isSome len cp l h m && decide ((len : Int) ≤ l)) (.ok (.v (.s (.sld id wd (h.toNat - l.toNat))))) else .no
        | _, _ => .no
      | .v (.s (.slq id wd' r len)) => match boundsT lo hi mx len len with
        | some (l, h, m) => if wd = wd' then chk y (boundsOk hi.isSome mx.isSome len len l h m) (.ok (.v (.s (.slq id wd (r + l.toNat) (h.toNat - l.toNat))))) else .no
        | none => .no
      | .v (.s (.mem id F wd' r len)) => match boundsT lo hi mx len len with
        | some (l, h, m) => if wd = wd' then chk y (boundsOk hi.isSome mx.isSome len len l h m) (.ok (.v (.s (.mems id F wd r l.toNat (h.toNat - l.toNat))))) else .no
        | none => .no
      | .v (.s (.mems id F wd' r lo' len)) => match boundsT lo hi mx len len with
        | some (l, h, m) => if wd = wd' then chk y (boundsOk hi.isSome mx.isSome len len l h m) (.ok (.v (.s (.mems id F wd r (lo' + l.toNat) (h.toNat - l.toNat))))) else .no
        | none => .no
      | _ => .no
    | none => .no
  | _ => .no

def arrPtrT (P : Program) (arr : TypeId) (x : TV) : Option TV :=
  match P.underlying arr with
  | some (.array n _) => match x with
    | .v (.s (.sl id _ o len)) => match Nat.ble n len, n with
      | true, _ + 1 => some (.v (.s (.p id o)))
      | _, _ => none
    | _ => none
  | _ => none

def extractT (x : TV) (i : Nat) : Option TV :=
  match x with
  | .tup l => (l[i]?).map .v
  | _ => none

def capsT (ρ : Operand → TV) : List Operand → Option (List (Nat × Nat))
  | [] => some []
  | x :: xs => match ρ x with
    | .v (.s (.p id o)) => match capsT ρ xs with
      | some r => some ((id, o) :: r)
      | none => none
    | _ => none

def lenT (P : Program) (t : TypeId) (x : TV) : Option TV :=
  match P.underlying t with
  | some (.slice _) => match x with
    | .v (.s (.sl _ _ _ len)) => some (tvn .i64 len)
    | .v (.s (.slr _ _ _ len _)) => some (tvn .i64 len)
    | .v (.s (.slc _ _ _ len)) => some (tvn .i64 len)
    | .v (.s (.slq _ _ _ len)) => some (tvn .i64 len)
    | .v (.s (.slw _ _ len)) => some (tvn .i64 len)
    | .v (.s (.slk _ _ len _)) => some (tvn .i64 len)
    | .v (.s (.slz _ _ _ len)) => some (tvn .i64 len)
    | .v (.s (.mem _ _ _ _ len)) => some (tvn .i64 len)
    | .v (.s (.mems _ _ _ _ _ len)) => some (tvn .i64 len)
    | .v (.s .slnil) => some (tvn .i64 0)
    | .v (.s .sle) => some (tvn .i64 0)
    | _ => none
  | some (.array n _) => some (tvn .i64 n)
  | _ => none

def minT (big : Bool) : TV → List TV → Option TV
  | x, [] => some x
  | .v (.s (.n k a)), .v (.s (.n _ b)) :: rest =>
    match big with
    | true => minT big (tvn k (if b > a then b else a)) rest
    | false => minT big (tvn k (if b < a then b else a)) rest
  | _, _ => none

def convT (P : Program) (src dst : TypeId) (x : TV) : Option TV :=
  match P.underlying src, P.underlying dst, x with
  | some _, some (.int k), .v (.s (.n _ n)) => some (tvn k (k.wrap n))
  | some _, some .string, .v (.s (.str l)) => some (.v (.s (.str l)))
  | _, _, _ => none

/-! ### What a call comes to -/

inductive Spec where
  | pure (F : List TV → Tr TV)
  | read (F : List TV → AH → Tr TV)
  | eff (F : List TV → AH → Tr (TV × AH))
  | none

abbrev Specs := FuncId → Spec

def Spec.app (s : Spec) (args : List TV) (H : AH) : Tr (TV × AH) :=
  match s with
  | .pure F => (F args).bind fun r => .ok (r, H)
  | .read F => (F args H).bind fun r => .ok (r, H)
  | .eff F => F args H
  | .none => .no

inductive Cl where
  | N | R | E
  deriving DecidableEq

def clCall (Γ : Specs) (c : Call) : Cl :=
  match c.callee with
  | .value (.func f) => match Γ f with
    | .pure _ => .N
    | .read _ => .R
    | _ => .E
  | .value (.tmp _) => match Γ 3 with
    | .read _ => .R
    | _ => .E
  | .builtin .len | .builtin .min | .builtin .max => .N
  | _ => .E

def clConv (P : Program) (src dst : TypeId) : Cl :=
  match P.underlying src, P.underlying dst with
  | _, some (.slice _) => .E
  | some (.slice _), _ => .R
  | _, _ => .N

def cls (P : Program) (Γ : Specs) (op : Op) : Cl :=
  match op with
  | .move _ | .assign _ | .pick .. | .build .. | .nilCheck _ | .sliceToArrayPointer .. | .binOp .. | .unOp .. | .makeFunc .. | .slice .. | .fieldAddr .. | .field .. | .indexAddr .. | .index .. | .extract .. => .N
  | .buildSlice _ len _ => match len with
    | 0 => .N
    | _ + 1 => .E
  | .convert src dst _ => clConv P src dst
  | .load .. => .R
  | .call c => clCall Γ c
  | _ => .E

def stepN (P : Program) (Γ : Specs) (y : Option Nat) (ρ : Operand → TV) (op : Op) : Tr TV :=
  match op with
  | .move x | .assign x => .ok (ρ x)
  | .pick c a b => match ρ c with
    | .v (.s (.b x)) => pickT x (ρ a) (ρ b)
    | _ => .no
  | .build t parts => match partsT ρ parts.toList with
    | some ps => opt (buildT P t ps)
    | none => .no
  | .buildSlice t len parts => match len, parts.toList with
    | 0, [] => match P.underlying t with
      | some (.slice e) => match sizeT P e with
        | some _ => .ok (.v (.s .sle))
        | none => .no
      | _ => .no
    | _, _ => .no
  | .nilCheck x => match ρ x with
    | .v (.s (.p id o)) => .ok (.v (.s (.p id o)))
    | .v (.s (.pr id wd i c)) => .ok (.v (.s (.pr id wd i c)))
    | .v (.s (.px id wd i o n len j c)) => .ok (.v (.s (.px id wd i o n len j c)))
    | .v (.s (.mpx id F wd i j o n len jj c)) => .ok (.v (.s (.mpx id F wd i j o n len jj c)))
    | _ => .no
  | .binOp op t a b _ => binT P y op t (ρ a) (ρ b)
  | .unOp op _ a => unT op (ρ a)
  | .convert src dst x => opt (convT P src dst (ρ x))
  | .makeFunc (.func f) first captured => match first.toList, capsT ρ captured.toList with
    | [], some l => .ok (.v (.s (.fn f l)))
    | _, _ => .no
  | .slice t x lo hi mx => sliceT P y t (ρ x) (lo.map ρ) (hi.map ρ) (mx.map ρ)
  | .sliceToArrayPointer arr x => opt (arrPtrT P arr (ρ x))
  | .fieldAddr s x f => opt (fieldAddrT P s (ρ x) f)
  | .field s x f => opt (fieldT P s (ρ x) f)
  | .indexAddr t x ix => indexAddrS P y t (ρ x) (ρ ix)
  | .index t x ix => indexS P y t (ρ x) (ρ ix)
  | .extract x i => opt (extractT (ρ x) i)
  | .call c => match c.callee with
    | .value (.func f) => match Γ f with
      | .pure F => F (c.args.toList.map ρ)
      | _ => .no
    | .builtin .len => match c.argTypes.toList, c.args.toList with
      | [t], [x] => opt (lenT P t (ρ x))
      | _, _ => .no
    | .builtin .min => match c.args.toList with
      | x :: rest => (opt (minT false (ρ x) (rest.map ρ))).bind (splitTV y)
      | [] => .no
    | .builtin .max => match c.args.toList with
      | x :: rest => opt (minT true (ρ x) (rest.map ρ))
      | [] => .no
    | _ => .no
  | _ => .no

def blk (H : AH) (id : Nat) : Option Blk := (H[id]?).join

def blkC (H : AH) (id : Nat) : Option Blk :=
  match blk H id with
  | some (.roc l) => some (.cells l)
  | b => b

def rowCells (ks : List SK) (g : Nat → Int) : (n c : Nat) → Option (List AS)
  | 0, _ => some []
  | n + 1, c => match ks[c]? with
    | some sk => match rowCells ks g n (c + 1) with
      | some r => some (mkS sk (g c) :: r)
      | none => none
    | none => none

def loadT (P : Program) (H : AH) (t : TypeId) (a : TV) : Tr TV :=
  match a with
  | .v (.s (.p id o)) => match blkC H id with
    | some (.cells l) => match aggT P t with
      | some true => match sizeT P t with
        | some n => if o + n ≤ l.length ∧ n ≠ 0 then .ok (.v (.agg ((l.drop o).take n))) else .no
        | none => .no
      | some false => opt ((l[o]?).map fun a => .v (.s a))
      | none => .no
    | _ => .no
  | .v (.s (.pr id wd i c)) => match blk H id with
    | some (.rows ks _ g _) => if wd = ks.length then
        match aggT P t with
        | some true => match sizeT P t with
          | some m => if m = 0 then .no else opt ((rowCells ks (g i) m c).map fun l => .v (.agg l))
          | none => .no
        | some false => match ks[c]? with
          | some sk => .ok (.v (.s (mkS sk (g i c))))
          | none => .no
        | none => .no
      else .no
    | _ => .no
  | _ => .no

def loadX (P : Program) (H : AH) (t : TypeId) (id wd i o n len j c : Nat) : Tr TV :=
  match blkC H id with
  | some (.cells l) => if wd = 0 ∧ i = 0 then
      match aggT P t with
      | some true => match sizeT P t with
        | some m => if m = 0 then .no else opt ((selSs l n len j m (o + c)).map fun r => .v (.agg r))
        | none => .no
      | some false => opt ((selS l (o + c) n len j).map fun a => .v (.s a))
      | none => .no
    else .no
  | some (.rows ks _ g _) => if wd = ks.length ∧ wd ≠ 0 then
      match aggT P t with
      | some true => match sizeT P t with
        | some m => if m = 0 then .no else opt ((rowCellsX ks (g i) n len j m (o + c)).map fun r => .v (.agg r))
        | none => .no
      | some false => match kindX ks n len (o + c) with
        | some sk => .ok (.v (.s (mkS sk (g i (o + c + j * n)))))
        | none => .no
      | none => .no
    else .no
  | _ => .no

/-! ### rows with members -/

def missK (c0 n : Nat) : (len o : Nat) → Bool
  | 0, _ => true
  | m + 1, o => match Nat.beq o c0 with
    | true => false
    | false => missK c0 n m (o + n)

def nCell (ks : List SK) (c0 wm id F : Nat) (ow : Ow) (i : Nat) (g : Nat → Nat → Int) (c : Nat) : Option AS :=
  match Nat.beq c c0 with
  | true => match ow with
    | .all => some (.mem id F wm i (g i c0).toNat)
    | _ => none
  | false => match ks[c]? with
    | some sk => some (mkS sk (g i c))
    | none => none

def nCells (ks : List SK) (c0 wm id F : Nat) (ow : Ow) (i : Nat) (g : Nat → Nat → Int) : (m c : Nat) → Option (List AS)
  | 0, _ => some []
  | m + 1, c => match nCell ks c0 wm id F ow i g c with
    | some a => match nCells ks c0 wm id F ow i g m (c + 1) with
      | some r => some (a :: r)
      | none => none
    | none => none

def isAll : Ow → Bool
  | .all => true
  | _ => false

def loadN (P : Program) (H : AH) (t : TypeId) (a : TV) : Option (Tr TV) :=
  match a with
  | .v (.s (.pr id wd i c)) => match blk H id with
    | some (.nrows ks c0 ms _ g _ F ow _) => some (if wd = ks.length then
        match aggT P t with
        | some true => match sizeT P t with
          | some m => if m = 0 then .no else opt ((nCells ks c0 ms.length id F ow i g m c).map fun l => .v (.agg l))
          | none => .no
        | some false => opt ((nCell ks c0 ms.length id F ow i g c).map fun a => .v (.s a))
        | none => .no
      else .no)
    | _ => none
  | .v (.s (.px id wd i o n len j c)) => match blk H id with
    | some (.nrows ks c0 _ _ g _ _ _ _) => some (if wd = ks.length ∧ wd ≠ 0 then
        match aggT P t with
        | some false => match missK c0 n len (o + c), kindX ks n len (o + c) with
          | true, some sk => .ok (.v (.s (mkS sk (g i (o + c + j * n)))))
          | _, _ => .no
        | _ => .no
      else .no)
    | _ => none
  | .v (.s (.mpx id F wd i j o n len jj c)) => some (match blk H id with
    | some (.nrows _ _ ms _ _ h F' ow _) => if F = F' ∧ wd = ms.length ∧ isAll ow = true then
        match aggT P t with
        | some true => match sizeT P t, jj with
          | some m, 0 => if m = 0 then .no else opt ((rowCells ms (fun c => h i (j * wd + c)) m (o + c)).map fun l => .v (.agg l))
          | _, _ => .no
        | some false => match kindX ms n len (o + c) with
          | some sk => .ok (.v (.s (mkS sk (h i (j * wd + (o + c + jj * n))))))
          | none => .no
        | none => .no
      else .no
    | _ => .no)
  | _ => none

def loadO (P : Program) (H : AH) (t : TypeId) (a : TV) : Tr TV :=
  match a with
  | .v (.s (.px id wd i o n len j c)) => loadX P H t id wd i o n len j c
  | a => loadT P H t a

def loadS (P : Program) (H : AH) (t : TypeId) (a : TV) : Tr TV :=
  match loadN P H t a with
  | some r => r
  | none => loadO P H t a

def viewT (x : TV) : Option (Nat × Nat × Nat × Nat) :=
  match x with
  | .v (.s (.slr id wd i len _)) => some (id, wd, i, len)
  | .v (.s (.slc id wd i len)) => some (id, wd, i, len)
  | .v (.s (.slq id wd i len)) => some (id, wd, i, len)
  | .v (.s (.slw id wd len)) => some (id, wd, 0, len)
  | .v (.s (.slz id wd i len)) => some (id, wd, i, len)
  | _ => none

def viewM (x : TV) : Option (Nat × Nat × Nat × Nat × Nat × Nat) :=
  match x with
  | .v (.s (.mem id F wd i len)) => some (id, F, wd, i, 0, len)
  | .v (.s (.mems id F wd i lo len)) => some (id, F, wd, i, lo, len)
  | _ => none

def bytesStrT (P : Program) (H : AH) (src dst : TypeId) (x : TV) : Option TV :=
  match P.underlying src, P.underlying dst with
  | some (.slice e), some .string => match P.underlying e with
    | some (.int .u8) => match viewT x with
      | some (id, wd, i, len) => match blk H id with
        | some (.rows ks _ g _) => if wd = 1 ∧ ks = [.n .u8] then some (.v (.s (.str ((List.range len).map fun j => UInt8.ofNat (g (i + j) 0).toNat)))) else none
        | _ => none
      | none => none
    | _ => none
  | _, _ => none

def dynR (Γ : Specs) (x : TV) (args : List TV) (H : AH) : Tr TV :=
  match x with
  | .v (.s (.fn f caps)) => match Γ f with
    | .read F => F (args ++ caps.map fun c => .v (.s (.p c.1 c.2))) H
    | .pure F => F (args ++ caps.map fun c => .v (.s (.p c.1 c.2)))
    | _ => .no
  | _ => .no

def stepR (P : Program) (Γ : Specs) (_y : Option Nat) (ρ : Operand → TV) (H : AH) (op : Op) : Tr TV :=
  match op with
  | .load t a => loadS P H t (ρ a)
  | .convert src dst x => opt (bytesStrT P H src dst (ρ x))
  | .call c => match c.callee with
    | .value (.func f) => match Γ f with
      | .read F => F (c.args.toList.map ρ) H
      | _ => .no
    | .value (.tmp t) => dynR Γ (ρ (.tmp t)) (c.args.toList.map ρ) H
    | _ => .no
  | _ => .no

/-! ### Operations that turn the memory -/

def allocA (H : AH) (l : List AS) : TV × AH := (.v (.s (.p H.length 0)), H ++ [some (.cells l)])

def updG (g : Nat → Nat → Int) (i c : Nat) (x : Int) : Nat → Nat → Int := fun i' c' => if c' = c then (if i' = i then x else g i' c') else g i' c'

def updRow (ks : List SK) (g : Nat → Nat → Int) (i : Nat) : (c : Nat) → List AS → Option (Nat → Nat → Int)
  | _, [] => some g
  | c, a :: as => match ks[c]? with
    | some sk => match asInt sk a with
      | some x => updRow ks (updG g i c x) i (c + 1) as
      | none => none
    | none => none

def storeT (P : Program) (H : AH) (t : TypeId) (a v : TV) : Tr AH :=
  match v with
  | .v v => match sizeT P t with
    | some n => if v.cells.length = n then
        match a with
        | .v (.s (.p id o)) => match blk H id with
          | some (.cells l) => if o + n ≤ l.length ∧ n ≠ 0 then forceL (setAll l o v.cells) fun l' => .ok (H.set id (some (.cells l'))) else .no
          | _ => .no
        | .v (.s (.pr id wd i c)) => match blk H id with
          | some (.rows ks m g true) => if wd = ks.length ∧ n ≠ 0 then (match updRow ks g i c v.cells with
            | some g' => .ok (H.set id (some (.rows ks m g' true)))
            | none => .no) else .no
          | _ => .no
        | _ => .no
      else .no
    | none => .no
  | _ => .no

def updRowX (ks : List SK) (g : Nat → Nat → Int) (i n len j : Nat) : (o : Nat) → List AS → Option (Nat → Nat → Int)
  | _, [] => some g
  | o, a :: as => match kindX ks n len o with
    | some sk => match asInt sk a with
      | some x => updRowX ks (updG g i (o + j * n) x) i n len j (o + 1) as
      | none => none
    | none => none

def storeX (P : Program) (H : AH) (t : TypeId) (id wd i o n len j c : Nat) (v : TV) : Tr AH :=
  match v with
  | .v v => match sizeT P t with
    | some m => if v.cells.length = m ∧ m ≠ 0 then
        match blk H id with
        | some (.cells l) => if wd = 0 ∧ i = 0 ∧ n ≠ 0 then
            (match setXs n len j v.cells (o + c) l with
            | some l' => forceL l' fun l' => .ok (H.set id (some (.cells l')))
            | none => .no)
          else .no
        | some (.rows ks r g true) => if wd = ks.length ∧ wd ≠ 0 then
            (match updRowX ks g i n len j (o + c) v.cells with
            | some g' => .ok (H.set id (some (.rows ks r g' true)))
            | none => .no)
          else .no
        | _ => .no
      else .no
    | none => .no
  | _ => .no

def owPut : Ow → Nat → Bool × Ow
  | .all, _ => (true, .all)
  | .but k, i => (Nat.beq i k, .all)
  | .below k, i => (Nat.beq i k, .below (k + 1))

def putM (h : Nat → Nat → Int) (i wd : Nat) (g : Nat → Nat → Int) : Nat → Nat → Int := fun i' k => if i' = i then g (k / wd) (k % wd) else h i' k

def putN (H : AH) (id : Nat) (ks : List SK) (c0 : Nat) (ms : List SK) (n : Nat) (g h : Nat → Nat → Int) (ow : Ow) (i : Nat) (a : AS) : Tr AH :=
  match a with
  | .slnil => .br 0 (owPut ow i).1 (.ok (H.set id (some (.nrows ks c0 ms n (updG g i c0 0) h H.length (owPut ow i).2 true)) ++ [none])) .no
  | .slw N wd m => if wd = ms.length ∧ wd ≠ 0 ∧ N ≠ id then
      match blk H N with
      | some (.rows ms' _ gN true) => if ms' = ms then
          .br 0 (owPut ow i).1 (.ok ((H.set N none).set id (some (.nrows ks c0 ms n (updG g i c0 (m : Nat)) (putM h i wd gN) H.length (owPut ow i).2 true)) ++ [none])) .no
        else .no
      | _ => .no
    else .no
  | _ => .no

def storeN (P : Program) (H : AH) (t : TypeId) (a v : TV) : Option (Tr AH) :=
  match a with
  | .v (.s (.pr id wd i c)) => match blk H id with
    | some (.nrows ks c0 ms n g h F ow true) => some (match v with
      | .v v => match sizeT P t with
        | some sz => if v.cells.length = sz ∧ sz ≠ 0 ∧ wd = ks.length then
            match Nat.beq c c0, v with
            | true, .s x => putN H id ks c0 ms n g h ow i x
            | _, _ => match missK c0 1 sz c, updRow ks g i c v.cells with
              | true, some g' => .ok (H.set id (some (.nrows ks c0 ms n g' h F ow true)))
              | _, _ => .no
          else .no
        | none => .no
      | _ => .no)
    | _ => none
  | .v (.s (.px id wd i o n len j c)) => match blk H id with
    | some (.nrows ks c0 ms r g h F ow true) => some (match v with
      | .v (.s x) => match sizeT P t with
        | some 1 => if wd = ks.length ∧ wd ≠ 0 then
            match missK c0 n len (o + c), updRowX ks g i n len j (o + c) [x] with
            | true, some g' => .ok (H.set id (some (.nrows ks c0 ms r g' h F ow true)))
            | _, _ => .no
          else .no
        | _ => .no
      | _ => .no)
    | _ => none
  | .v (.s (.mpx id F wd i j o n len jj c)) => some (match blk H id with
    | some (.nrows ks c0 ms r g h F' ow true) => if F = F' ∧ wd = ms.length ∧ isAll ow = true then
        match v with
        | .v (.s x) => match sizeT P t with
          | some 1 => match kindX ms n len (o + c) with
            | some sk => match asInt sk x with
              | some z => .ok (H.set id (some (.nrows ks c0 ms r g (updG h i (j * wd + (o + c + jj * n)) z) F ow true)))
              | none => .no
            | none => .no
          | _ => .no
        | _ => .no
      else .no
    | _ => .no)
  | _ => none

def storeO (P : Program) (H : AH) (t : TypeId) (a v : TV) : Tr AH :=
  match a with
  | .v (.s (.px id wd i o n len j c)) => storeX P H t id wd i o n len j c v
  | a => storeT P H t a v

def storeS (P : Program) (H : AH) (t : TypeId) (a v : TV) : Tr AH :=
  match storeN P H t a v with
  | some r => r
  | none => storeO P H t a v

def slAt : List AS → Nat → Option Nat
  | [], _ => none
  | .slnil :: _, i => some i
  | _ :: as, i => slAt as (i + 1)

def nKinds (c0 : Nat) : List AS → Nat → Option (List SK)
  | [], _ => some []
  | a :: as, i => match Nat.beq i c0 with
    | true => match a with
      | .slnil => match nKinds c0 as (i + 1) with
        | some ks => some (.n .i64 :: ks)
        | none => none
      | _ => none
    | false => match kindOf a with
      | some k => match nKinds c0 as (i + 1) with
        | some ks => some (k :: ks)
        | none => none
      | none => none

def sliceIn (P : Program) : Nat → TypeId → Option TypeId
  | 0, _ => none
  | d + 1, t => match P.underlying t with
    | some (.slice e) => some e
    | some (.struct fs) => fs.toList.findSome? fun f => sliceIn P d f.type
    | _ => none

def nKindsT (P : Program) (t : TypeId) : Option (List SK × Nat × List SK) :=
  match zeroT P t with
  | some z => match slAt z 0 with
    | some c0 => match nKinds c0 z 0, (sliceIn P 8 t).bind (kindsT P) with
      | some ks, some ms => match Nat.blt c0 ks.length with
        | true => some (ks, c0, ms)
        | false => none
      | _, _ => none
    | none => none
  | none => none

def makeT (P : Program) (y : Option Nat) (H : AH) (t : TypeId) (l c : TV) : Tr (TV × AH) :=
  match l, c with
  | .v (.s (.n _ x)), .v (.s (.n _ x')) => match P.underlying t with
    | some (.slice e) => match sizeT P e with
      | some wd => if wd ≠ 0 ∧ P.bytesOf e ≤ 1024 then
          match kindsT P e with
          | some ks => if ks.length = wd then
              chk y (decide (0 ≤ x) && (x == x') && decide (x ≤ 1073741824)) (.ok (.v (.s (.slw H.length wd x.toNat)), H ++ [some (.rows ks x.toNat (fun _ _ => 0) true)]))
            else .no
          | none => match nKindsT P e with
            | some (ks, c0, ms) => if ks.length = wd then
                chk y (decide (0 ≤ x) && (x == x') && decide (x ≤ 1073741824)) (.ok (.v (.s (.slw H.length wd x.toNat)), H ++ [some (.nrows ks c0 ms x.toNat (fun _ _ => 0) (fun _ _ => 0) (H.length + 1) .all true), none]))
              else .no
            | none => .no
        else .no
      | none => .no
    | _ => .no
  | _, _ => .no

def buildSliceT (P : Program) (H : AH) (t : TypeId) (len : Nat) (parts : List (Nat × AV)) : Option (TV × AH) :=
  match P.underlying t with
  | some (.slice e) => match sizeT P e with
    | some n => if len * n > 2 ^ 24 then none else
      if n = 0 then none else
      if len = 0 then (match kindsT P e, parts with
        | some ks, [] => if ks.length = n then some (.v (.s (.slw H.length n 0)), H ++ [some (.rows ks 0 (fun _ _ => 0) true)]) else none
        | none, [] => match nKindsT P e with
          | some (ks, c0, ms) => if ks.length = n then some (.v (.s (.slc H.length n 0 0)), H ++ [some (.nrows ks c0 ms 0 (fun _ _ => 0) (fun _ _ => 0) (H.length + 1) .all true), none]) else none
          | none => none
        | _, _ => none) else
      match zeroT P e with
      | some zero => if zero.length ≠ n then none else match fillA (fun i => some (i * n, n)) ((List.range (len * n)).map fun i => zero.getD (i % zero.length) .pnil) parts with
        | some l => some (.v (.s (.sl H.length n 0 len)), H ++ [some (.cells l)])
        | none => none
      | none => none
    | none => none
  | _ => none

def strBytesT (P : Program) (H : AH) (src dst : TypeId) (x : TV) : Option (TV × AH) :=
  match P.underlying src, P.underlying dst with
  | some .string, some (.slice e) => match P.underlying e with
    | some (.int .u8) => match x with
      | .v (.s (.str l)) => some (.v (.s (.slw H.length 1 l.length)), H ++ [some (.rows [.n .u8] l.length (fun i _ => ((l.getD i 0).toNat : Int)) false)])
      | _ => none
    | _ => none
  | _, _ => none

def rowInts : List SK → List AS → Option (List Int)
  | [], _ => some []
  | k :: ks, a :: as => match asInt k a with
    | some x => match rowInts ks as with
      | some r => some (x :: r)
      | none => none
    | none => none
  | _ :: _, [] => none

def rowsOf (ks : List SK) : List AS → Nat → Option (List (List Int))
  | _, 0 => some []
  | l, m + 1 => match rowInts ks l with
    | some r => match rowsOf ks (l.drop ks.length) m with
      | some rs => some (r :: rs)
      | none => none
    | none => none

def rowsF : List (List Int) → Nat → Nat → Int
  | [r], _, c => r.getD c 0
  | rs, j, c => (rs.getD j []).getD c 0

def litY (y : Option Nat) : Bool :=
  match y with
  | some g => Nat.ble 100000 g && Nat.blt g 200000
  | none => false

def buildRowsT (P : Program) (H : AH) (t : TypeId) (len : Nat) (parts : List (Nat × AV)) : Option (TV × AH) :=
  match P.underlying t with
  | some (.slice e) => match sizeT P e, kindsT P e with
    | some n, some ks => if len * n > 2 ^ 24 then none else
      if n = 0 ∨ len = 0 ∨ ks.length ≠ n then none else
      match zeroT P e with
      | some zero => if zero.length ≠ n then none else match fillA (fun i => some (i * n, n)) ((List.range (len * n)).map fun i => zero.getD (i % zero.length) .pnil) parts with
        | some l => match rowsOf ks l len with
          | some rs => if l.length = len * n then some (.v (.s (.slw H.length n len)), H ++ [some (.rows ks len (rowsF rs) true)]) else none
          | none => none
        | none => none
      | none => none
    | _, _ => none
  | _ => none

def buildY (P : Program) (y : Option Nat) (H : AH) (t : TypeId) (len : Nat) (parts : List (Nat × AV)) : Option (TV × AH) :=
  match litY y with
  | true => buildRowsT P H t len parts
  | false => buildSliceT P H t len parts

def srcT (ks : List SK) (H : AH) (x : TV) : Option (Option Nat × Nat × (Nat → Nat → Int)) :=
  match x with
  | .v (.s (.sl id wd o m)) => match blkC H id with
    | some (.cells l) => if wd = ks.length then match rowsOf ks (l.drop o) m with
        | some rs => some (none, m, rowsF rs)
        | none => none
      else none
    | _ => none
  | x => match viewT x with
    | some (id, wd, i, m) => match blk H id with
      | some (.rows ks' _ g _) => if wd = ks.length ∧ ks' = ks then some (some id, m, fun j c => g (i + j) c) else none
      | _ => none
    | none => match viewM x with
      | some (id, F, wd, i, lo, m) => match blk H id with
        | some (.nrows _ _ ms _ _ h F' ow _) => if wd = ks.length ∧ ms = ks ∧ F = F' ∧ isAll ow = true then some (some id, m, fun j c => h i ((lo + j) * wd + c)) else none
        | _ => none
      | none => none

def appG (g : Nat → Nat → Int) (n : Nat) (src : Nat → Nat → Int) : Nat → Nat → Int := fun i c => if i < n then g i c else src (i - n) c

def midG (g : Nat → Nat → Int) (a m : Nat) (src : Nat → Nat → Int) : Nat → Nat → Int := fun i c => if a ≤ i ∧ i < a + m then src (i - a) c else g i c

def appendT (P : Program) (y : Option Nat) (H : AH) (sT xT : TypeId) (s x : TV) : Tr (TV × AH) :=
  match P.underlying sT, P.underlying xT with
  | some (.slice e), some (.slice _) => match kindsT P e, sizeT P e with
    | some ks, some wd => if ks.length = wd ∧ wd ≠ 0 ∧ P.bytesOf e ≤ 1024 then
        match srcT ks H x with
        | some (sid, m, src) => match s with
          | .v (.s .slnil) => chk y (decide (0 < m) && decide (m ≤ 1073741824)) (.ok (.v (.s (.slr H.length wd 0 m m)), H ++ [some (.rows ks m src true)]))
          | .v (.s (.slr id wd' i len cp)) => match blk H id with
            | some (.rows ks' n g true) => if wd' = wd ∧ ks' = ks then
                (if sid = some id then .no
                else chkB y (P.bytesOf e) (fun B => (i == 0) && (len == n) && decide (n + m ≤ B)) (.ok (.v (.s (.slr H.length wd 0 (n + m) (n + m))), H.set id none ++ [some (.rows ks (n + m) (appG g n src) true)])))
              else .no
            | _ => .no
          | .v (.s (.slc id wd' i len)) => match blk H id with
            | some (.rows ks' _ g _) => if wd' = wd ∧ ks' = ks then
                chk y ((decide (0 < m) || (len == 0)) && decide (len + m ≤ 1073741824)) (.ok (.v (.s (.slr H.length wd 0 (len + m) (len + m))), H ++ [some (.rows ks (len + m) (appG (fun k c => g (i + k) c) len src) true)]))
              else .no
            | _ => .no
          | _ => .no
        | none => .no
      else .no
    | _, _ => .no
  | _, _ => .no

def toSlw : TV × AH → TV × AH
  | (.v (.s (.slr id wd _ len _)), H) => (.v (.s (.slw id wd len)), H)
  | r => r

def inT (P : Program) (y : Option Nat) (H : AH) (sT xT : TypeId) (s x : TV) : Option (Tr (TV × AH)) :=
  match s with
  | .v (.s (.slr id wd' i len cp)) => match P.underlying sT, P.underlying xT with
    | some (.slice e), some (.slice _) => match kindsT P e, sizeT P e with
      | some ks, some wd => if ks.length = wd ∧ wd ≠ 0 ∧ wd' = wd then
          match srcT ks H x with
          | some (some sid, m, src) => match Nat.beq sid id with
            | true => match blk H id with
              | some (.rows ks' _ g true) => if ks' = ks then
                  some (chk y ((i == 0) && decide (len + m ≤ cp)) (.ok (.v (.s (.slk H.length wd (len + m) cp)), H.set id none ++ [some (.rows ks (len + m) (appG g len src) true)])))
                else none
              | _ => none
            | false => none
          | _ => none
        else none
      | _, _ => none
    | _, _ => none
  | _ => none

def appendS (P : Program) (y : Option Nat) (H : AH) (sT xT : TypeId) (s x : TV) : Tr (TV × AH) :=
  match s with
  | .v (.s .slnil) => match P.underlying sT with
    | some (.slice e) => match kindsT P e with
      | some ks => match srcT ks (H ++ [some (.rows ks 0 (fun _ _ => 0) true)]) x with
        | some (sid, m, src) => if ks.length = 0 ∨ sid = some H.length ∨ ¬ (P.underlying xT).isSome ∨ sizeT P e ≠ some ks.length ∨ P.bytesOf e > 1024 then .no else
          match P.underlying xT with
          | some (.slice _) => chk y (decide (m ≤ 1073741824)) (.ok (.v (.s (.slw (H.length + 1) ks.length m)), H ++ [none] ++ [some (.rows ks m src true)]))
          | _ => .no
        | none => .no
      | none => .no
    | _ => .no
  | .v (.s .sle) => match P.underlying sT with
    | some (.slice e) => match kindsT P e with
      | some ks => match srcT ks (H ++ [some (.rows ks 0 (fun _ _ => 0) true)]) x with
        | some (sid, m, src) => if ks.length = 0 ∨ sid = some H.length ∨ ¬ (P.underlying xT).isSome ∨ sizeT P e ≠ some ks.length ∨ P.bytesOf e > 1024 then .no else
          match P.underlying xT with
          | some (.slice _) => chk y (decide (m ≤ 1073741824)) (.ok (.v (.s (.slw (H.length + 1) ks.length m)), H ++ [none] ++ [some (.rows ks m src true)]))
          | _ => .no
        | none => .no
      | none => .no
    | _ => .no
  | .v (.s (.slw id wd _)) => match P.underlying sT, P.underlying xT with
    | some (.slice e), some (.slice _) => match kindsT P e with
      | some ks => match srcT ks H x with
        | some (sid, m, src) => match blk H id with
          | some (.rows ks' n g true) => if ks.length ≠ 0 ∧ sid ≠ some id ∧ sizeT P e = some ks.length ∧ P.bytesOf e ≤ 1024 ∧ wd = ks.length ∧ ks' = ks then
              chkB y (P.bytesOf e) (fun B => decide (n + m ≤ B)) (.ok (.v (.s (.slw H.length ks.length (n + m))), H.set id none ++ [some (.rows ks (n + m) (appG g n src) true)]))
            else .no
          | _ => .no
        | none => .no
      | none => .no
    | _, _ => .no
  | s => match inT P y H sT xT s x with
    | some r => r
    | none => (appendT P y H sT xT s x).bind fun r => .ok (toSlw r)

def appendM (P : Program) (y : Option Nat) (H : AH) (sT xT : TypeId) (id F wd i len : Nat) (x : TV) : Tr (TV × AH) :=
  match blk H id with
  | some (.nrows ks c0 ms n g h F' ow true) => if wd = ms.length ∧ wd ≠ 0 ∧ F = F' ∧ isAll ow = true then
      appendS P y (H.set id (some (.nrows ks c0 ms n g h F' (.but i) true)) ++ [some (.rows ms len (fun j c => h i (j * wd + c)) true)]) sT xT (.v (.s (.slw H.length wd len))) x
    else .no
  | _ => .no

def appendNN (P : Program) (y : Option Nat) (H : AH) (sT xT : TypeId) (x : TV) : Tr (TV × AH) :=
  match P.underlying sT, P.underlying xT with
  | some (.slice e), some (.slice _) => match nKindsT P e with
    | some (ks, c0, ms) => match viewT x with
      | some (id2, wd2, i2, m) => match blk H id2 with
        | some (.nrows ks' c0' _ _ g _ _ _ _) => if wd2 = ks.length ∧ wd2 ≠ 0 ∧ ks' = ks ∧ c0' = c0 ∧ sizeT P e = some ks.length ∧ P.bytesOf e ≤ 1024 then
            chk y (decide (m ≤ 1073741824)) (.ok (.v (.s (.slw H.length wd2 m)), H ++ [some (.nrows ks c0 ms m (fun j c => g (i2 + j) c) (fun _ _ => 0) (H.length + 1) (.below 0) true), none]))
          else .no
        | _ => .no
      | none => .no
    | none => .no
  | _, _ => .no

def isN (H : AH) (id : Nat) : Bool :=
  match blk H id with
  | some (.nrows ..) => true
  | _ => false

def isNE (P : Program) (sT : TypeId) : Bool :=
  match P.underlying sT with
  | some (.slice e) => match kindsT P e with
    | some _ => false
    | none => true
  | _ => false

def appendA (P : Program) (y : Option Nat) (H : AH) (sT xT : TypeId) (s x : TV) : Tr (TV × AH) :=
  match s with
  | .v (.s (.mem id F wd i len)) => appendM P y H sT xT id F wd i len x
  | .v (.s (.slc id wd i 0)) => match isN H id with
    | true => appendNN P y H sT xT x
    | false => appendS P y H sT xT (.v (.s (.slc id wd i 0))) x
  | .v (.s .sle) => match isNE P sT with
    | true => appendNN P y H sT xT x
    | false => appendS P y H sT xT (.v (.s .sle)) x
  | s => appendS P y H sT xT s x

def copyT (P : Program) (H : AH) (dT : TypeId) (d s : TV) : Option (TV × AH) :=
  match P.underlying dT with
  | some (.slice e) => match sizeT P e, d, s with
    | some wd, .v (.s (.sl did wd1 o dlen)), .v (.s (.sl sid wd2 so slen)) => if wd1 = wd ∧ wd2 = wd then
        match blk H did, blkC H sid with
        | some (.cells l), some (.cells ls) =>
          if o + min slen dlen * wd ≤ l.length ∧ so + min slen dlen * wd ≤ ls.length ∧ min slen dlen * wd ≠ 0 then
            forceL (setAll l o ((ls.drop so).take (min slen dlen * wd))) fun l' => some (tvn .i64 (min slen dlen : Nat), H.set did (some (.cells l')))
          else none
        | _, _ => none
      else none
    | _, _, _ => none
  | _ => none

def clearT (P : Program) (H : AH) (t : TypeId) (x : TV) : Option (TV × AH) :=
  match P.underlying t with
  | some (.slice e) => match kindsT P e, x with
    | some ks, .v (.s (.slr id wd i len _)) => match blk H id with
      | some (.rows ks' n g true) => if wd = ks.length ∧ ks' = ks then some (.tup [], H.set id (some (.rows ks n (midG g i len fun _ _ => 0) true))) else none
      | _ => none
    | some ks, .v (.s (.sld id wd _)) => match blk H id with
      | some (.rows ks' n g true) => if wd = ks.length ∧ ks' = ks then some (.tup [], H.set id (some (.rows ks n g true))) else none
      | _ => none
    | _, _ => none
  | _ => none

def litBytesT (P : Program) (H : AH) (src dst : TypeId) (x : TV) : Option (TV × AH) :=
  match Nat.beq src dst, P.underlying src, x with
  | true, some (.slice e), .v (.s (.sl id 1 0 len)) => match P.underlying e, blk H id with
    | some (.int .u8), some (.cells l) => if l.length = len ∧ len ≠ 0 then
        match rowsOf [.n .u8] l len with
        | some rs => some (.v (.s (.slq H.length 1 0 len)), H.set id none ++ [some (.rows [.n .u8] len (rowsF rs) false)])
        | none => none
      else none
    | _, _ => none
  | _, _, _ => none

def convE (P : Program) (H : AH) (src dst : TypeId) (x : TV) : Option (TV × AH) :=
  match x with
  | .v (.s (.str _)) => strBytesT P H src dst x
  | _ => litBytesT P H src dst x

def callT (Γ : Specs) (f : FuncId) (args : List TV) (H : AH) : Tr (TV × AH) := (Γ f).app args H

def stepE (P : Program) (Γ : Specs) (y : Option Nat) (ρ : Operand → TV) (H : AH) (op : Op) : Tr (TV × AH) :=
  match op with
  | .alloc t => match zeroT P t with
    | some l => .ok (allocA H l)
    | none => .no
  | .box _ x => match ρ x with
    | .v a => .ok (allocA H a.cells)
    | _ => .no
  | .buildSlice t len parts => match partsT ρ parts.toList with
    | some ps => opt (buildY P y H t len ps)
    | none => .no
  | .makeSlice t l c => makeT P y H t (ρ l) (ρ c)
  | .store t a x => (storeS P H t (ρ a) (ρ x)).bind fun H' => .ok (.tup [], H')
  | .convert src dst x => opt (convE P H src dst (ρ x))
  | .call c => match c.callee with
    | .builtin .append => match c.argTypes.toList, c.args.toList with
      | [sT, xT], [a, b] => appendA P y H sT xT (ρ a) (ρ b)
      | _, _ => .no
    | .builtin .copy => match c.argTypes.toList, c.args.toList with
      | [dT, _], [a, b] => opt (copyT P H dT (ρ a) (ρ b))
      | _, _ => .no
    | .builtin .clear => match c.argTypes.toList, c.args.toList with
      | [t], [a] => opt (clearT P H t (ρ a))
      | _, _ => .no
    | .value x => match ρ x with
      | .v (.s (.fn f caps)) => callT Γ f (c.args.toList.map ρ ++ caps.map fun c => .v (.s (.p c.1 c.2))) H
      | _ => .no
    | _ => .no
  | _ => .no

def step (P : Program) (Γ : Specs) (y : Option Nat) (ρ : Operand → TV) (H : AH) (op : Op) : Tr (TV × AH) :=
  match cls P Γ op with
  | .N => (stepN P Γ y ρ op).bind fun v => .ok (v, H)
  | .R => (stepR P Γ y ρ H op).bind fun v => .ok (v, H)
  | .E => stepE P Γ y ρ H op

end Go.AM
end
