/-
  The abstract machine, part 22: a function that is told of its own memory, called in another one.
-/
import Derived.Test.YtepdekambalmhaaAn5
namespace Go.AM

def gId (σ : List Src) (N : Nat) (id : Nat) : Option Nat :=
  match σ[id]? with
  | some (.blk c) => some c
  | some .fresh => some (N + id)
  | none => some (N + id)
  | _ => none

def renCaps (σ : List Src) (N : Nat) : List (Nat × Nat) → Option (List (Nat × Nat))
  | [] => some []
  | c :: r => match gId σ N c.1 with
    | some id => match renCaps σ N r with
      | some r' => some ((id, c.2) :: r')
      | none => none
    | none => none

def renS (σ : List Src) (N : Nat) : AS → Option AS
  | .p id o => (gId σ N id).map fun id => .p id o
  | .pr id wd i c => (gId σ N id).map fun id => .pr id wd i c
  | .px id wd i o n len j c => (gId σ N id).map fun id => .px id wd i o n len j c
  | .sl id wd o len => (gId σ N id).map fun id => .sl id wd o len
  | .slr id wd i len cp => (gId σ N id).map fun id => .slr id wd i len cp
  | .slc id wd i len => (gId σ N id).map fun id => .slc id wd i len
  | .slq id wd i len => (gId σ N id).map fun id => .slq id wd i len
  | .slw id wd n => (gId σ N id).map fun id => .slw id wd n
  | .opq id => match σ[id]? with
    | some (.opq a) => some a
    | some (.blk c) => some (.opq c)
    | _ => none
  | .fn f caps => (renCaps σ N caps).map fun caps => .fn f caps
  | .b x => some (.b x)
  | .n k x => some (.n k x)
  | .pnil => some .pnil
  | .slnil => some .slnil
  | .str l => some (.str l)
  | .fnil => some .fnil
  | .slk .. => none
  | .sld .. => none

def renL (σ : List Src) (N : Nat) : List AS → Option (List AS)
  | [] => some []
  | a :: r => match renS σ N a with
    | some a' => match renL σ N r with
      | some r' => some (a' :: r')
      | none => none
    | none => none

def renA (σ : List Src) (N : Nat) : AV → Option AV
  | .s a => (renS σ N a).map .s
  | .agg l => (renL σ N l).map .agg

def renAs (σ : List Src) (N : Nat) : List AV → Option (List AV)
  | [] => some []
  | a :: r => match renA σ N a with
    | some a' => match renAs σ N r with
      | some r' => some (a' :: r')
      | none => none
    | none => none

def renT (σ : List Src) (N : Nat) : TV → Option TV
  | .v a => (renA σ N a).map .v
  | .tup l => (renAs σ N l).map .tup
  | .k b => some (.k b)
  | .any => some .any

def renB (σ : List Src) (N : Nat) : Blk → Option Blk
  | .cells l => (renL σ N l).map .cells
  | .rows ks n g true => some (.rows ks n g true)
  | _ => none

section
variable {φ φl : Phi} {σ : List Src}

/-- How a function's own places lie in its caller's. -/
structure Bound (φ : Phi) (σ : List Src) (φl : Phi) : Prop where
  blk : ∀ (j c : Nat), σ[j]? = some (.blk c) → φl[j]? = φ[c]?
  opq : ∀ (j : Nat) (a : AS) (L : Loc), σ[j]? = some (.opq a) → φl[j]? = some L → relS φ a L.x.val

theorem gId_get (hb : Bound φ σ φl) {id id' : Nat} {L : Loc} (h : gId σ φ.length id = some id') (hL : φl[id]? = some L) : (φ ++ φl)[id']? = some L := by
  have more : (φ ++ φl)[φ.length + id]? = some L := by rw [List.getElem?_append_right (by omega)]; simpa using hL
  unfold gId at h
  split at h
  · rename_i c hc
    cases h
    rw [hb.blk _ _ hc] at hL
    exact get_prefix hL
  · cases h; exact more
  · cases h; exact more
  · cases h

theorem renCaps_rel (hb : Bound φ σ φl) : ∀ {caps caps' : List (Nat × Nat)} {cs : List Value}, renCaps σ φ.length caps = some caps' → All2 (fun (c : Nat × Nat) u => ∃ L, φl[c.1]? = some L ∧ u = .pointer (some ⟨L.b, L.base + c.2, none⟩)) caps cs →
    All2 (fun (c : Nat × Nat) u => ∃ L, (φ ++ φl)[c.1]? = some L ∧ u = .pointer (some ⟨L.b, L.base + c.2, none⟩)) caps' cs
  | [], caps', cs, h, hc => by cases h; cases cs with | nil => trivial | cons _ _ => exact hc.elim
  | c :: r, caps', cs, h, hc => by
    simp only [renCaps] at h
    split at h
    · rename_i id hid
      split at h
      · rename_i r' hr
        cases h
        cases cs with
        | nil => exact hc.elim
        | cons u cs =>
          obtain ⟨⟨L, hL, hu⟩, hcs⟩ := hc
          exact ⟨⟨L, gId_get hb hid hL, hu⟩, renCaps_rel hb hr hcs⟩
      · cases h
    · cases h

theorem renS_rel (hb : Bound φ σ φl) {a a' : AS} {v : Value} (h : renS σ φ.length a = some a') (hv : relS φl a v) : relS (φ ++ φl) a' v := by
  unfold renS at h
  split at h
  · obtain ⟨id, h1, rfl⟩ := Option.map_eq_some_iff.1 h
    obtain ⟨L, hL, hv⟩ := hv; exact ⟨L, gId_get hb h1 hL, hv⟩
  · obtain ⟨id, h1, rfl⟩ := Option.map_eq_some_iff.1 h
    obtain ⟨L, hL, hv⟩ := hv; exact ⟨L, gId_get hb h1 hL, hv⟩
  · obtain ⟨id, h1, rfl⟩ := Option.map_eq_some_iff.1 h
    obtain ⟨L, hL, hv⟩ := hv; exact ⟨L, gId_get hb h1 hL, hv⟩
  · obtain ⟨id, h1, rfl⟩ := Option.map_eq_some_iff.1 h
    rcases hv with hv | ⟨L, cap, hL, hv⟩
    · exact .inl hv
    · exact .inr ⟨L, cap, gId_get hb h1 hL, hv⟩
  · obtain ⟨id, h1, rfl⟩ := Option.map_eq_some_iff.1 h
    rcases hv with hv | ⟨L, cap, hL, hv⟩
    · exact .inl hv
    · exact .inr ⟨L, cap, gId_get hb h1 hL, hv⟩
  · obtain ⟨id, h1, rfl⟩ := Option.map_eq_some_iff.1 h
    rcases hv with hv | ⟨L, hL, hv⟩
    · exact .inl hv
    · exact .inr ⟨L, gId_get hb h1 hL, hv⟩
  · obtain ⟨id, h1, rfl⟩ := Option.map_eq_some_iff.1 h
    rcases hv with hv | ⟨L, cap, hL, hv⟩
    · exact .inl hv
    · exact .inr ⟨L, cap, gId_get hb h1 hL, hv⟩
  · obtain ⟨id, h1, rfl⟩ := Option.map_eq_some_iff.1 h
    obtain ⟨L, hL, hv⟩ := hv; exact ⟨L, gId_get hb h1 hL, hv⟩
  · obtain ⟨L, hL, hv, hk⟩ := hv
    split at h
    · rename_i a hs
      cases h
      rw [hv]
      exact relS.mono _ (hb.opq _ _ _ hs hL)
    · rename_i c hs
      cases h
      rw [hb.blk _ _ hs] at hL
      exact ⟨L, get_prefix hL, hv, hk⟩
    · cases h
  · obtain ⟨caps, h1, rfl⟩ := Option.map_eq_some_iff.1 h
    obtain ⟨cs, e1, e2⟩ := hv
    exact ⟨cs, e1, renCaps_rel hb h1 e2⟩
  all_goals first | (cases h; done) | (cases h; exact hv)

theorem renL_rel (hb : Bound φ σ φl) : ∀ {l l' : List AS} {vs : List Value}, renL σ φ.length l = some l' → All2 (relS φl) l vs → All2 (relS (φ ++ φl)) l' vs
  | [], l', vs, h, hv => by cases h; cases vs with | nil => trivial | cons _ _ => exact hv.elim
  | a :: r, l', vs, h, hv => by
    simp only [renL] at h
    split at h
    · rename_i a' ha
      split at h
      · rename_i r' hr
        cases h
        cases vs with
        | nil => exact hv.elim
        | cons v vs => exact ⟨renS_rel hb ha hv.1, renL_rel hb hr hv.2⟩
      · cases h
    · cases h

theorem renL_len : ∀ {l l' : List AS} {N : Nat}, renL σ N l = some l' → l'.length = l.length
  | [], l', _, h => by cases h; rfl
  | a :: r, l', _, h => by
    simp only [renL] at h
    split at h
    · split at h
      · rename_i r' hr
        cases h
        simp [renL_len hr]
      · cases h
    · cases h

theorem renA_rel (hb : Bound φ σ φl) {a a' : AV} {v : Value} (h : renA σ φ.length a = some a') (hv : relA φl a v) : relA (φ ++ φl) a' v := by
  cases a with
  | s a => obtain ⟨x, h1, rfl⟩ := Option.map_eq_some_iff.1 h; exact renS_rel hb h1 hv
  | agg l => obtain ⟨x, h1, rfl⟩ := Option.map_eq_some_iff.1 h; obtain ⟨cs, e1, e2⟩ := hv; exact ⟨cs, e1, renL_rel hb h1 e2⟩

theorem renAs_rel (hb : Bound φ σ φl) : ∀ {l l' : List AV} {vs : List Value}, renAs σ φ.length l = some l' → All2 (relA φl) l vs → All2 (relA (φ ++ φl)) l' vs
  | [], l', vs, h, hv => by cases h; cases vs with | nil => trivial | cons _ _ => exact hv.elim
  | a :: r, l', vs, h, hv => by
    simp only [renAs] at h
    split at h
    · rename_i a' ha
      split at h
      · rename_i r' hr
        cases h
        cases vs with
        | nil => exact hv.elim
        | cons v vs => exact ⟨renA_rel hb ha hv.1, renAs_rel hb hr hv.2⟩
      · cases h
    · cases h

theorem renT_rel (hb : Bound φ σ φl) {a a' : TV} {v : Value} (h : renT σ φ.length a = some a') (hv : relT φl a v) : relT (φ ++ φl) a' v := by
  cases a with
  | v a => obtain ⟨x, h1, rfl⟩ := Option.map_eq_some_iff.1 h; exact renA_rel hb h1 hv
  | tup l => obtain ⟨x, h1, rfl⟩ := Option.map_eq_some_iff.1 h; obtain ⟨cs, e1, e2⟩ := hv; exact ⟨cs, e1, renAs_rel hb h1 e2⟩
  | k b => cases h; exact hv
  | any => cases h; trivial

theorem renB_rep (hb : Bound φ σ φl) {B B' : Blk} {L : Loc} {heap : Array Obj} (h : renB σ φ.length B = some B') (hB : RepB φl L heap B) : RepB (φ ++ φl) L heap B' := by
  unfold renB at h
  split at h
  · obtain ⟨x, h1, rfl⟩ := Option.map_eq_some_iff.1 h
    obtain ⟨e1, e2, e3⟩ := hB
    exact ⟨e1, by rw [renL_len h1]; exact e2, e3.imp id fun ⟨cs, t, e4, e5⟩ => ⟨cs, t, e4, renL_rel hb h1 e5⟩⟩
  · cases h
    obtain ⟨e1, e2, e3⟩ := hB
    exact ⟨e1, e2, e3.imp id fun ⟨cs, t, fr, k1, k2, k3, k4⟩ => ⟨cs, t, fr, k1, k2, k3, fun i c sk hi hc => let ⟨v, q1, q2⟩ := k4 i c sk hi hc; ⟨v, q1, by cases sk <;> exact q2⟩⟩⟩
  · cases h

theorem renB_mut {N : Nat} {B B' : Blk} (h : renB σ N B = some B') : B.mut = true ∧ B'.mut = true ∧ ∀ L x, B.foot L x ↔ B'.foot L x := by
  unfold renB at h
  split at h
  · obtain ⟨x, h1, rfl⟩ := Option.map_eq_some_iff.1 h; exact ⟨rfl, rfl, fun _ _ => Iff.rfl⟩
  · cases h; exact ⟨rfl, rfl, fun _ _ => Iff.rfl⟩
  · cases h
end

/-- The caller's blocks that the function turned. -/
def gBack (σ : List Src) (N : Nat) (H2 : AH) : (j : Nat) → List Src → List BSh → AH → Option AH
  | j, s :: r, b :: r', H => match b.mut, s with
    | true, .blk c => match H2[j]? with
      | some (some B) => match renB σ N B with
        | some B' => gBack σ N H2 (j + 1) r r' (H.set c (some B'))
        | none => none
      | _ => gBack σ N H2 (j + 1) r r' (H.set c none)
    | _, _ => gBack σ N H2 (j + 1) r r' H
  | _, _, _, H => some H

def isNew (σ : List Src) (j : Nat) : Bool :=
  match σ[j]? with
  | none => true
  | some .fresh => true
  | _ => false

/-- The blocks that it made. -/
def gMore (σ : List Src) (N : Nat) : (j : Nat) → AH → Option AH
  | _, [] => some []
  | j, b :: r => match (match isNew σ j, b with
      | true, some B => (renB σ N B).map some
      | _, _ => some none) with
    | some x => match gMore σ N (j + 1) r with
      | some r' => some (x :: r')
      | none => none
    | none => none

def globH (σ : List Src) (bs : List BSh) (H H2 : AH) : Option AH :=
  match gBack σ H.length H2 0 σ bs H, gMore σ H.length 0 H2 with
  | some a, some b => some (a ++ b)
  | _, _ => none

theorem gBack_spec {σ : List Src} {N : Nat} {H2 : AH} : ∀ {r : List Src} {r' : List BSh} {j : Nat} {H H' : AH}, gBack σ N H2 j r r' H = some H' → H'.length = H.length ∧ ∀ id B, H'[id]? = some (some B) →
    (H[id]? = some (some B) ∧ ∀ (t : Nat) (b : BSh), r[t]? = some (Src.blk id) → r'[t]? = some b → b.mut = false) ∨
    (∃ (t : Nat) (b : BSh) (B2 : Blk), r[t]? = some (Src.blk id) ∧ r'[t]? = some b ∧ b.mut = true ∧ H2[j + t]? = some (some B2) ∧ renB σ N B2 = some B)
  | [], r', j, H, H', h => by
    cases r' <;> (cases h; exact ⟨rfl, fun id B hB => .inl ⟨hB, fun t b h1 => by simp at h1⟩⟩)
  | _ :: _, [], j, H, H', h => by
    cases h; exact ⟨rfl, fun id B hB => .inl ⟨hB, fun t b _ h2 => by simp at h2⟩⟩
  | s :: r, b :: r', j, H, H', h => by
    simp only [gBack] at h
    have step : ∀ {H1 : AH}, gBack σ N H2 (j + 1) r r' H1 = some H' → H1.length = H.length → (∀ id B, H1[id]? = some (some B) → (H[id]? = some (some B) ∧ (s = .blk id → b.mut = false)) ∨ (s = .blk id ∧ b.mut = true ∧ ∃ B2, H2[j]? = some (some B2) ∧ renB σ N B2 = some B)) →
        H'.length = H.length ∧ ∀ id B, H'[id]? = some (some B) → (H[id]? = some (some B) ∧ ∀ (t : Nat) (c : BSh), (s :: r)[t]? = some (Src.blk id) → (b :: r')[t]? = some c → c.mut = false) ∨
          (∃ (t : Nat) (c : BSh) (B2 : Blk), (s :: r)[t]? = some (Src.blk id) ∧ (b :: r')[t]? = some c ∧ c.mut = true ∧ H2[j + t]? = some (some B2) ∧ renB σ N B2 = some B) := by
      intro H1 h1 hl h2
      obtain ⟨g1, g2⟩ := gBack_spec h1
      refine ⟨by rw [g1, hl], fun id B hB => ?_⟩
      rcases g2 id B hB with ⟨e1, e2⟩ | ⟨t, c, B2, e1, e2, e3, e4, e5⟩
      · rcases h2 id B e1 with ⟨f1, f2⟩ | ⟨rfl, f2, B2, f3, f4⟩
        · refine .inl ⟨f1, fun t c k1 k2 => ?_⟩
          cases t with
          | zero =>
            simp only [List.getElem?_cons_zero, Option.some.injEq] at k1 k2
            subst k2
            exact f2 k1
          | succ t => exact e2 t c (by simpa using k1) (by simpa using k2)
        · exact .inr ⟨0, b, B2, rfl, rfl, f2, f3, f4⟩
      · exact .inr ⟨t + 1, c, B2, by simpa using e1, by simpa using e2, e3, by rw [← e4]; congr 1; omega, e5⟩
    split at h
    · rename_i c hm
      have hset : ∀ (x : Option Blk) id B, (H.set c x)[id]? = some (some B) → (id = c ∧ x = some B) ∨ (id ≠ c ∧ H[id]? = some (some B)) := fun x id B h => get_set h
      split at h
      · rename_i B2 hB2
        split at h
        · rename_i B' hB'
          refine step h (by simp) fun id B hB => ?_
          rcases hset _ id B hB with ⟨rfl, e⟩ | ⟨hne, e⟩
          · cases e; exact .inr ⟨rfl, hm, B2, hB2, hB'⟩
          · exact .inl ⟨e, fun e' => by cases e'; exact (hne rfl).elim⟩
        · cases h
      · refine step h (by simp) fun id B hB => ?_
        rcases hset _ id B hB with ⟨rfl, e⟩ | ⟨hne, e⟩
        · cases e
        · exact .inl ⟨e, fun e' => by cases e'; exact (hne rfl).elim⟩
    · rename_i hno
      refine step h rfl fun id B hB => .inl ⟨hB, fun e => ?_⟩
      cases hm : b.mut with
      | false => rfl
      | true => exact (hno id hm e).elim

theorem gMore_spec {σ : List Src} {N : Nat} : ∀ {H2 : AH} {j : Nat} {H' : AH}, gMore σ N j H2 = some H' → H'.length = H2.length ∧ ∀ t B, H'[t]? = some (some B) → isNew σ (j + t) = true ∧ ∃ B2, H2[t]? = some (some B2) ∧ renB σ N B2 = some B
  | [], j, H', h => by cases h; exact ⟨rfl, fun t B h => by simp at h⟩
  | b :: r, j, H', h => by
    simp only [gMore] at h
    split at h
    · rename_i x hx
      split at h
      · rename_i r' hr
        cases h
        obtain ⟨g1, g2⟩ := gMore_spec hr
        refine ⟨by simp [g1], fun t B hB => ?_⟩
        cases t with
        | zero =>
          simp only [List.getElem?_cons_zero, Option.some.injEq] at hB
          subst hB
          split at hx
          · rename_i B0 hn
            obtain ⟨B1, e1, e2⟩ := Option.map_eq_some_iff.1 hx
            cases e2
            exact ⟨hn, B0, rfl, e1⟩
          · cases hx
        | succ t =>
          obtain ⟨e1, B2, e2, e3⟩ := g2 t B (by simpa using hB)
          exact ⟨by rw [← e1]; congr 1; omega, B2, by simpa using e2, e3⟩
      · cases h
    · cases h

theorem frame_back {φ φ0 φ2 : Phi} {H H0 H2 H' : AH} {w w' : World} {σ : List Src} {bs : List BSh} (hrep : Rep φ H w.heap) (hσ : All2 (SrcOK φ) σ φ0) (hI : Img φ H σ φ0 H0) (hm0 : ∀ (j : Nat) B, H0[j]? = some (some B) → ∃ b, bs[j]? = some b ∧ b.mut = B.mut)
    (hrep2 : Rep φ2 H2 w'.heap) (hE : Ext φ0 H0 w φ2 H2 w') (hg : globH σ bs H H2 = some H') :
    Rep (φ ++ φ2) H' w'.heap ∧ Ext φ H w (φ ++ φ2) H' w' ∧ Bound φ σ φ2 := by
  have hpre := hE.pre
  obtain ⟨ψ, hψ⟩ := hpre
  have hb : Bound φ σ φ2 := by
    refine ⟨fun j c hj => ?_, fun j a L hj hL => ?_⟩
    · obtain ⟨L, h1, h2⟩ := hσ.get hj
      rw [hψ, get_prefix h1]; exact h2.symm
    · obtain ⟨L', h1, h2⟩ := hσ.get hj
      rw [hψ, get_prefix h1] at hL
      cases hL; exact h2
  unfold globH at hg
  split at hg
  · rename_i Ha Hb ha hbb
    cases hg
    obtain ⟨a1, a2⟩ := gBack_spec ha
    obtain ⟨b1, b2⟩ := gMore_spec hbb
    have hlen := hrep.len
    -- where a block comes from
    have origin : ∀ (id : Nat) (B : Blk) (L : Loc), (Ha ++ Hb)[id]? = some (some B) → (φ ++ φ2)[id]? = some L →
        (id < H.length ∧ H[id]? = some (some B) ∧ φ[id]? = some L ∧ ∀ (t : Nat) (b : BSh), σ[t]? = some (Src.blk id) → bs[t]? = some b → b.mut = false) ∨
        (∃ j B2, H2[j]? = some (some B2) ∧ φ2[j]? = some L ∧ renB σ φ.length B2 = some B ∧ ((id < H.length ∧ σ[j]? = some (.blk id)) ∨ (id = H.length + j ∧ isNew σ j = true))) := by
      intro id B L hB hL
      rcases Nat.lt_or_ge id H.length with hlt | hge
      · rw [List.getElem?_append_left (by omega)] at hB
        rw [List.getElem?_append_left (by omega)] at hL
        rcases a2 id B hB with ⟨e1, e2⟩ | ⟨t, b, B2, e1, e2, e3, e4, e5⟩
        · exact .inl ⟨hlt, e1, hL, e2⟩
        · refine .inr ⟨t, B2, by simpa using e4, ?_, by rw [hlen]; exact e5, .inl ⟨hlt, e1⟩⟩
          rw [hb.blk _ _ e1]; exact hL
      · rw [List.getElem?_append_right (by omega), a1] at hB
        rw [List.getElem?_append_right (by omega)] at hL
        obtain ⟨e1, B2, e2, e3⟩ := b2 _ B hB
        rw [Nat.zero_add] at e1
        exact .inr ⟨id - H.length, B2, e2, by rw [← hlen]; exact hL, by rw [hlen]; exact e3, .inr ⟨by omega, e1⟩⟩
    have hex : ∀ (id : Nat) (B : Blk), (Ha ++ Hb)[id]? = some (some B) → ∃ L, (φ ++ φ2)[id]? = some L := by
      intro id B hB
      have h1 := get_lt hB
      have h2 := hrep2.len
      simp only [List.length_append] at h1
      have h3 : id < (φ ++ φ2).length := by simp only [List.length_append]; omega
      exact ⟨_, List.getElem?_eq_getElem h3⟩
    -- an old block and one of the function's lie apart
    have cross : ∀ (id j x : Nat) (B B2 : Blk) (L L2 : Loc), H[id]? = some (some B) → φ[id]? = some L → (∀ (t : Nat) (b : BSh), σ[t]? = some (Src.blk id) → bs[t]? = some b → b.mut = false) → H2[j]? = some (some B2) → φ2[j]? = some L2 → B2.mut = true → B.foot L x → B2.foot L2 x → False := by
      intro id j x B B2 L L2 h1 h2 h3 h4 h5 h6 h7 h8
      obtain ⟨L', e1, e2⟩ := hrep.blk id B h1
      rw [h2] at e1; cases e1
      have hx := e2.lt h7
      rcases hE.img j B2 L2 x h4 h5 h8 with hge | ⟨id0, B0, L0, k1, k2, k3, k4⟩
      · omega
      · obtain ⟨s, c, Bc, Lc, p1, p2, p3, p4, p5, p6⟩ := hI id0 B0 L0 x k1 k2 k3
        obtain ⟨q1, rfl⟩ := p6 (k4 h6)
        by_cases hc : c = id
        · subst hc
          obtain ⟨b, r1, r2⟩ := hm0 id0 B0 k1
          have := h3 id0 b p1 r1
          rw [r2, k4 h6] at this
          cases this
        · exact hrep.apart c id Bc B Lc L x p3 h1 p4 h2 hc q1 p5 h7
    -- what is old stays as it was
    have stay : ∀ (id : Nat) (B : Blk) (L : Loc), H[id]? = some (some B) → φ[id]? = some L → (∀ (t : Nat) (b : BSh), σ[t]? = some (Src.blk id) → bs[t]? = some b → b.mut = false) → ∀ x, B.foot L x → w'.heap[x]? = w.heap[x]? := by
      intro id B L h1 h2 h3 x hx
      obtain ⟨L', e1, e2⟩ := hrep.blk id B h1
      rw [h2] at e1; cases e1
      refine hE.frame x (e2.lt hx) fun id0 B0 L0 k1 k2 k3 k4 => ?_
      obtain ⟨s, c, Bc, Lc, p1, p2, p3, p4, p5, p6⟩ := hI id0 B0 L0 x k1 k3 k4
      obtain ⟨q1, rfl⟩ := p6 k2
      by_cases hc : c = id
      · subst hc
        obtain ⟨b, r1, r2⟩ := hm0 id0 B0 k1
        have := h3 id0 b p1 r1
        rw [r2, k2] at this
        cases this
      · exact hrep.apart c id Bc B Lc L x p3 h1 p4 h2 hc q1 p5 hx
    refine ⟨⟨by simp [a1, b1, hlen, hrep2.len], ?_, ?_⟩, ⟨⟨hE.size, ⟨φ2, rfl⟩, ?_, ?_⟩, hE.os, hE.output, hE.tape⟩, hb⟩
    · intro id B hB
      obtain ⟨L, hL⟩ := hex id B hB
      refine ⟨L, hL, ?_⟩
      rcases origin id B L hB hL with ⟨_, h1, h2, h3⟩ | ⟨j, B2, h1, h2, h3, _⟩
      · obtain ⟨L', e1, e2⟩ := hrep.blk id B h1
        rw [h2] at e1; cases e1
        exact (e2.mono φ2).of_heap (stay id B L h1 h2 h3)
      · obtain ⟨L', e1, e2⟩ := hrep2.blk j B2 h1
        rw [h2] at e1; cases e1
        exact renB_rep hb h3 e2
    · intro id id' B B' L L' x hB hB' hL hL' hne hm z z'
      rcases origin id B L hB hL with ⟨_, h1, h2, h3⟩ | ⟨j, B2, h1, h2, h3, h4⟩
      · rcases origin id' B' L' hB' hL' with ⟨_, h1', h2', h3'⟩ | ⟨j', B2', h1', h2', h3', h4'⟩
        · exact hrep.apart id id' B B' L L' x h1 h1' h2 h2' hne hm z z'
        · obtain ⟨m1, m2, m3⟩ := renB_mut h3'
          exact cross id j' x B B2' L L' h1 h2 h3 h1' h2' m1 z ((m3 _ _).2 z')
      · obtain ⟨m1, m2, m3⟩ := renB_mut h3
        rcases origin id' B' L' hB' hL' with ⟨_, h1', h2', h3'⟩ | ⟨j', B2', h1', h2', h3', h4'⟩
        · exact cross id' j x B' B2 L' L h1' h2' h3' h1 h2 m1 z' ((m3 _ _).2 z)
        · obtain ⟨n1, n2, n3⟩ := renB_mut h3'
          have hjj : j ≠ j' := by
            rintro rfl
            rcases h4 with ⟨_, s1⟩ | ⟨rfl, s1⟩
            · rcases h4' with ⟨_, s2⟩ | ⟨_, s2⟩
              · rw [s1] at s2; cases s2; exact hne rfl
              · simp [isNew, s1] at s2
            · rcases h4' with ⟨_, s2⟩ | ⟨rfl, s2⟩
              · simp [isNew, s2] at s1
              · exact hne rfl
          exact hrep2.apart j j' B2 B2' L L' x h1 h1' h2 h2' hjj m1 ((m3 _ _).2 z) ((n3 _ _).2 z')
    · intro b hlt hn
      refine hE.frame b hlt fun id0 B0 L0 k1 k2 k3 k4 => ?_
      obtain ⟨s, c, Bc, Lc, p1, p2, p3, p4, p5, p6⟩ := hI id0 B0 L0 b k1 k3 k4
      exact hn c Bc Lc p3 (p6 k2).1 p4 p5
    · intro id B L b hB hL hf
      rcases origin id B L hB hL with ⟨_, h1, h2, h3⟩ | ⟨j, B2, h1, h2, h3, _⟩
      · exact .inr ⟨id, B, L, h1, h2, hf, fun h => h⟩
      · obtain ⟨m1, m2, m3⟩ := renB_mut h3
        rcases hE.img j B2 L b h1 h2 ((m3 _ _).2 hf) with h' | ⟨id0, B0, L0, k1, k2, k3, k4⟩
        · exact .inl h'
        · obtain ⟨s, c, Bc, Lc, p1, p2, p3, p4, p5, p6⟩ := hI id0 B0 L0 b k1 k2 k3
          exact .inr ⟨c, Bc, Lc, p3, p4, p5, fun hm => (p6 (k4 m1)).1⟩
  · cases hg
end Go.AM
