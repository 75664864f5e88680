/-
  The abstract machine, part 5: one operation, whichever: what it does is what the abstract one says.
-/
import Derived.Test.YtgmhggipaopoiaaAm3ToAm4
import Derived.Laws.Rows
section
namespace Go.AM

def Does (P : Program) (φ : Phi) (H : AH) (w : World) (r : Result Next) (tv : TV) (H' : AH) : Prop :=
  (∃ v w' φ', (r = .ok (.value v) w' ∨ (r = .ok .skip w' ∧ v = undef)) ∧ relT φ' tv v ∧ Rep φ' H' w'.heap ∧ Ext φ H w φ' H' w') ∨
  (∃ f args, r = .ok (.enter f args) w ∧ Calls P f args w fun e w' => ∃ v φ', e = .returned v ∧ relT φ' tv v ∧ Rep φ' H' w'.heap ∧ Ext φ H w φ' H' w')

def idsS : AS → List Nat
  | .p id _ => [id]
  | .pr id _ _ _ => [id]
  | .px id _ _ _ _ _ _ _ => [id]
  | .sl id _ _ _ => [id]
  | .slr id _ _ _ _ => [id]
  | .slc id _ _ _ => [id]
  | .slq id _ _ _ => [id]
  | .slw id _ _ => [id]
  | .slk id _ _ _ => [id]
  | .sld id _ _ => [id]
  | .opq id => [id]
  | .slz id _ _ _ => [id]
  | .mem id F _ _ _ => [id, F]
  | .mems id F _ _ _ _ => [id, F]
  | .mpx id F _ _ _ _ _ _ _ _ => [id, F]
  | .fn _ caps => caps.map (·.1)
  | _ => []

def idsL : List AS → List Nat
  | [] => []
  | a :: r => idsS a ++ idsL r

def idsA : AV → List Nat
  | .s a => idsS a
  | .agg l => idsL l

def idsAs : List AV → List Nat
  | [] => []
  | a :: r => idsA a ++ idsAs r

def idsT : TV → List Nat
  | .v a => idsA a
  | .tup l => idsAs l
  | _ => []

def idsTs : List TV → List Nat
  | [] => []
  | a :: r => idsT a ++ idsTs r

def idsB : Option Blk → List Nat
  | some (.cells l) => idsL l
  | some (.roc l) => idsL l
  | some (.nrows _ _ _ _ _ _ F _ _) => [F]
  | _ => []

def closedIds (H : AH) (X : List Nat) : Bool := X.all fun id => (idsB (blk H id)).all fun j => X.contains j

def MonoS : Spec → Prop
  | .read F => ∀ targs H tv B, (F targs H).val = some tv → (F targs (H ++ [B])).val = some tv
  | .eff F => ∀ targs H tv H' X j, (F targs H).val = some (tv, H') → (∀ i ∈ idsTs targs, i ∈ X) → closedIds H X = true → j < H.length → j ∉ X → blk H' j = blk H j
  | _ => True

def SpecF (P : Program) (f : FuncId) (s : Spec) : Prop :=
  s = .none ∨ ((∃ fn, P.funcs[f]? = some fn ∧ (fn.name == "runtime.NumGoroutine") = false ∧ fn.body.isNone = false) ∧
    (∀ φ H w targs (args : List Value) tv H', (s.app targs H).val = some (tv, H') → Rep φ H w.heap → All2 (relT φ) targs args →
      Calls P f args.toArray w fun e w' => ∃ v φ', e = .returned v ∧ relT φ' tv v ∧ Rep φ' H' w'.heap ∧ Ext φ H w φ' H' w') ∧ MonoS s)

def SpecOK (P : Program) (Γ : Specs) : Prop := ∀ f, SpecF P f (Γ f)

section
variable {P : Program} {φ : Phi} {H : AH}

theorem blk_some {id : Nat} {B : Blk} (h : blk H id = some B) : H[id]? = some (some B) := by
  unfold blk at h
  cases hx : H[id]? with
  | none => simp [hx] at h
  | some x => simp [hx] at h; rw [h]

theorem blk_mono {id : Nat} {b : Blk} {B : Option Blk} (h : blk H id = some b) : blk (H ++ [B]) id = some b := by
  have h1 := blk_some h
  have hl : id < H.length := by
    rcases Nat.lt_or_ge id H.length with h2 | h2
    · exact h2
    · rw [List.getElem?_eq_none h2] at h1; cases h1
  unfold blk
  rw [List.getElem?_append_left hl, h1]
  rfl

theorem blkC_mono {id : Nat} {b : Blk} {B : Option Blk} (h : blkC H id = some b) : blkC (H ++ [B]) id = some b := by
  unfold blkC at h ⊢
  cases hb : blk H id with
  | none => rw [hb] at h; cases h
  | some x => rw [hb] at h; rw [blk_mono hb]; exact h

theorem rep_blkC {heap : Array Obj} {id : Nat} {B : Blk} (hrep : Rep φ H heap) (h : blkC H id = some B) : ∃ L, φ[id]? = some L ∧ RepB φ L heap B := by
  unfold blkC at h
  split at h
  · rename_i l hb
    obtain rfl := Option.some.inj h
    obtain ⟨L, h1, h2⟩ := hrep.blk _ _ (blk_some hb)
    exact ⟨L, h1, h2⟩
  · exact hrep.blk _ _ (blk_some h)

theorem blkC_rows {id : Nat} {ks : List SK} {n : Nat} {g : Nat → Nat → Int} {own : Bool} (h : blkC H id = some (.rows ks n g own)) : blk H id = some (.rows ks n g own) := by
  unfold blkC at h
  split at h
  · cases h
  · exact h

theorem Does.value {w : World} {r : Result Next} {tv : TV} {v : Value} (hr : r = .ok (.value v) w) (hv : relT φ tv v) (hrep : Rep φ H w.heap) : Does P φ H w r tv H :=
  .inl ⟨v, w, φ, .inl hr, hv, hrep, Ext.refl _ _ _⟩

/-! ### laying a new block -/

theorem get_push {id : Nat} {B B' : Blk} (hid : (H ++ [some B])[id]? = some (some B')) : (id < H.length ∧ H[id]? = some (some B')) ∨ (id = H.length ∧ B' = B) := by
  rcases Nat.lt_or_ge id H.length with h' | h'
  · left; rw [List.getElem?_append_left h'] at hid; exact ⟨h', hid⟩
  · right
    rw [List.getElem?_append_right h'] at hid
    have h0 : id - H.length = 0 := by
      rcases Nat.eq_zero_or_pos (id - H.length) with e | e
      · exact e
      · rw [List.getElem?_eq_none (by simp; omega)] at hid; cases hid
    rw [h0] at hid
    simp at hid
    exact ⟨by omega, hid.symm⟩

theorem rep_more {heap heap' : Array Obj} {L : Loc} {B : Blk} (h : Rep φ H heap) (hsz : heap.size ≤ heap'.size) (old : ∀ b, b < heap.size → heap'[b]? = heap[b]?) (hb : ∀ b, B.foot (φ ++ [L]) L b → heap.size ≤ b)
    (hB : RepB (φ ++ [L]) L heap' B) :
    Rep (φ ++ [L]) (H ++ [some B]) heap' ∧ ExtH φ H heap (φ ++ [L]) (H ++ [some B]) heap' := by
  have hlast : (φ ++ [L])[H.length]? = some L := by rw [← h.len]; simp
  refine rep_step (ψ := [L]) (fun _ => False) (fun id => id = H.length) h (by simp [h.len]) hsz (fun b hb _ => old b hb) (fun b _ hf => hf.elim) ?_ ?_ ?_
  · intro id B' hid hne
    rcases get_push hid with ⟨_, hid'⟩ | ⟨rfl, _⟩
    · exact ⟨hid', fun _ _ _ _ hf => hf⟩
    · exact (hne rfl).elim
  · intro id B' hid hN
    subst hN
    rcases get_push hid with ⟨hlt, _⟩ | ⟨_, rfl⟩
    · omega
    · exact ⟨L, hlast, hB, fun b z => .inr (hb b z)⟩
  · intro id id' B B' L L' b h1 h2 _ _ _ _ hne
    exact (hne (h1.trans h2.symm)).elim

theorem get_push2 {id : Nat} {B B' : Blk} (hid : (H ++ [some B, none])[id]? = some (some B')) : (id < H.length ∧ H[id]? = some (some B')) ∨ (id = H.length ∧ B' = B) := by
  have e : H ++ [some B, none] = (H ++ [some B]) ++ [none] := by simp
  rw [e] at hid
  rcases Nat.lt_or_ge id (H ++ [some B]).length with hlt | hge
  · rw [List.getElem?_append_left hlt] at hid
    exact get_push hid
  · rw [List.getElem?_append_right hge] at hid
    rcases Nat.eq_zero_or_pos (id - (H ++ [some B]).length) with e | e
    · rw [e] at hid; simp at hid
    · rw [List.getElem?_eq_none (by simp at e ⊢; omega)] at hid; cases hid

theorem rep_more2 {heap heap' : Array Obj} {L LF : Loc} {B : Blk} (h : Rep φ H heap) (hsz : heap.size ≤ heap'.size) (old : ∀ b, b < heap.size → heap'[b]? = heap[b]?) (hb : ∀ b, B.foot (φ ++ [L, LF]) L b → heap.size ≤ b)
    (hB : RepB (φ ++ [L, LF]) L heap' B) :
    Rep (φ ++ [L, LF]) (H ++ [some B, none]) heap' ∧ ExtH φ H heap (φ ++ [L, LF]) (H ++ [some B, none]) heap' := by
  have hlast : (φ ++ [L, LF])[H.length]? = some L := by rw [← h.len]; simp
  refine rep_step (ψ := [L, LF]) (fun _ => False) (fun id => id = H.length) h (by simp [h.len]) hsz (fun b hb _ => old b hb) (fun b _ hf => hf.elim) ?_ ?_ ?_
  · intro id B' hid hne
    rcases get_push2 hid with ⟨_, hid'⟩ | ⟨rfl, _⟩
    · exact ⟨hid', fun _ _ _ _ hf => hf⟩
    · exact (hne rfl).elim
  · intro id B' hid hN
    subst hN
    rcases get_push2 hid with ⟨hlt, _⟩ | ⟨_, rfl⟩
    · omega
    · exact ⟨L, hlast, hB, fun b z => .inr (hb b z)⟩
  · intro id id' B B' L L' b h1 h2 _ _ _ _ hne
    exact (hne (h1.trans h2.symm)).elim

theorem rep_push {heap : Array Obj} {o : Obj} {L : Loc} {B : Blk} (h : Rep φ H heap) (hb : ∀ b, B.foot (φ ++ [L]) L b → b = heap.size) (hB : RepB (φ ++ [L]) L (heap.push o) B) :
    Rep (φ ++ [L]) (H ++ [some B]) (heap.push o) ∧ ExtH φ H heap (φ ++ [L]) (H ++ [some B]) (heap.push o) :=
  rep_more h (by simp) (fun b hlt => by rw [Array.getElem?_push, if_neg (Nat.ne_of_lt hlt)]) (fun b z => Nat.le_of_eq (hb b z).symm) hB

theorem rep_alloc {w : World} {l : List AS} {cs : Array Value} (t : TypeId) (h : Rep φ H w.heap) (hl : All2 (relS φ) l cs.toList) :
    ∃ φ', relT φ' (allocA H l).1 (.pointer (some ⟨w.heap.size, 0, none⟩)) ∧ Rep φ' (allocA H l).2 (w.heap.push (.cells cs t)) ∧ ExtH φ H w.heap φ' (allocA H l).2 (w.heap.push (.cells cs t)) := by
  have hlast : (φ ++ [⟨w.heap.size, 0, l.length, 0, .nil⟩])[H.length]? = some (⟨w.heap.size, 0, l.length, 0, .nil⟩ : Loc) := by rw [← h.len]; simp
  obtain ⟨h1, h2⟩ := rep_push (o := .cells cs t) (L := ⟨w.heap.size, 0, l.length, 0, .nil⟩) (B := .cells l) h (by intro _ hf; exact hf.2.symm) ⟨rfl, rfl, .inr ⟨cs, t, by simp, hl.mono fun _ _ h => relS.mono _ h⟩⟩
  exact ⟨_, ⟨_, hlast, by simp⟩, h1, h2⟩

/-! ### turning a block -/

theorem get_set {id : Nat} {x : Option Blk} {j : Nat} {C : Blk} (hj : (H.set id x)[j]? = some (some C)) : (j = id ∧ x = some C) ∨ (j ≠ id ∧ H[j]? = some (some C)) := by
  rw [List.getElem?_set] at hj
  by_cases e : id = j
  · subst e
    simp only [if_true] at hj
    split at hj
    · exact .inl ⟨rfl, Option.some.inj hj⟩
    · cases hj
  · simp [e] at hj
    exact .inr ⟨fun e' => e e'.symm, hj⟩

theorem rep_set {heap heap' : Array Obj} {id : Nat} {B B' : Blk} {L : Loc} (h : Rep φ H heap) (hid : H[id]? = some (some B)) (hL : φ[id]? = some L) (hm : B.mut = true) (hf : ∀ b, B'.foot φ L b → B.foot φ L b)
    (hsz : heap.size ≤ heap'.size) (ho : ∀ b, ¬ B.foot φ L b → b < heap.size → heap'[b]? = heap[b]?) (hB : RepB φ L heap' B') :
    Rep φ (H.set id (some B')) heap' ∧ ExtH φ H heap φ (H.set id (some B')) heap' := by
  have e : φ ++ [] = φ := by simp
  have := rep_step (ψ := []) (H' := H.set id (some B')) (heap' := heap') (fun b => B.foot φ L b) (fun j => j = id) h (by simp [h.len]) hsz (fun b hb hn => ho b hn hb) (fun b _ hw => ⟨id, B, L, hid, hm, hL, hw⟩)
    (fun j C hj hne => by
      rcases get_set hj with ⟨rfl, _⟩ | ⟨_, hj'⟩
      · exact (hne rfl).elim
      · exact ⟨hj', fun L' b hL' z z' => h.apart id j B C L L' b hid hj' hL hL' (Ne.symm hne) hm z' z⟩)
    (fun j C hj hN => by
      subst hN
      rcases get_set hj with ⟨_, hC⟩ | ⟨hne, _⟩
      · cases hC
        rw [e]
        exact ⟨L, hL, hB, fun b z => .inl (hf b z)⟩
      · exact (hne rfl).elim)
    (fun j j' C C' L1 L2 b h1 h2 _ _ _ _ hne => (hne (h1.trans h2.symm)).elim)
  rwa [e] at this

theorem rep_drop {heap : Array Obj} (id : Nat) (h : Rep φ H heap) : Rep φ (H.set id none) heap ∧ ExtH φ H heap φ (H.set id none) heap := by
  have key : ∀ {j : Nat} {C : Blk}, (H.set id none)[j]? = some (some C) → H[j]? = some (some C) := by
    intro j C hj
    rcases get_set hj with ⟨_, hC⟩ | ⟨_, hj'⟩
    · cases hC
    · exact hj'
  exact ⟨⟨by simp [h.len], fun j C hj => h.blk j C (key hj), fun j j' C C' L1 L2 b h1 h2 => h.apart j j' C C' L1 L2 b (key h1) (key h2)⟩,
    ⟨Nat.le_refl _, ⟨[], by simp⟩, fun _ _ _ => rfl, fun j C L b hj hL z => .inr ⟨j, C, L, key hj, hL, z, fun h => h⟩⟩⟩

/-! ### loads -/

theorem run_loadVar_at {w : World} {t : TypeId} {b o n : Nat} {cs : Array Value} {ty : TypeId} {fr : Nat × Nat} (hg : w.heap[b]? = some (.cells cs ty fr)) (ha : aggT P t = some true) (hn : sizeT P t = some n) (ho : o + n ≤ cs.size) :
    (loadVar t ⟨b, o, none⟩).run P w = .ok (.agg ((cs.toList.drop o).take n).toArray) w := by
  have hlen : ((cs.toList.drop o).take n).length = n := by simp; omega
  have := run_loadCells_list (P := P) w ⟨b, o, none⟩ ((cs.toList.drop o).take n) (fun j v hv => by
    rw [add_zero_off, cell_of_row w b (o + j) cs ty fr hg]
    rw [List.getElem?_take] at hv
    split at hv
    · simpa using hv
    · cases hv)
  rw [hlen] at this
  simp only [loadVar, Sem.run_bind, run_isAgg ha, Result.andThen_ok, if_true, run_size hn, this]
  rfl

theorem run_loadVar_one {w : World} {t : TypeId} {b o : Nat} {cs : Array Value} {ty : TypeId} {fr : Nat × Nat} {v : Value} (hg : w.heap[b]? = some (.cells cs ty fr)) (ha : aggT P t = some false) (hv : cs[o]? = some v) :
    (loadVar t ⟨b, o, none⟩).run P w = .ok v w := by
  simp [loadVar, run_isAgg ha, cell_of_row w b o cs ty fr hg, hv]

theorem rowCells_rel {ks : List SK} {g : Nat → Int} {cs : List Value} {o : Nat} : ∀ {n c : Nat} {l : List AS}, rowCells ks g n c = some l →
    (∀ (c : Nat) (sk : SK), ks[c]? = some sk → ∃ v, cs[o + c]? = some v ∧ relS φ (mkS sk (g c)) v) → All2 (relS φ) l ((cs.drop (o + c)).take n) ∧ o + c + n ≤ cs.length + (if n = 0 then o + c else 0)
  | 0, c, l, h, _ => by simp [rowCells] at h; subst h; simp [All2]
  | n + 1, c, l, h, hk => by
    simp only [rowCells] at h
    split at h
    · rename_i sk hsk
      split at h
      · rename_i r hr
        obtain rfl := Option.some.inj h
        obtain ⟨v, hv, hrel⟩ := hk c sk hsk
        obtain ⟨ih1, ih2⟩ := rowCells_rel (n := n) (c := c + 1) hr hk
        have hlt : o + c < cs.length := by
          rcases Nat.lt_or_ge (o + c) cs.length with h' | h'
          · exact h'
          · simp [List.getElem?_eq_none h'] at hv
        have hd : cs.drop (o + c) = v :: cs.drop (o + c + 1) := by
          rw [List.drop_eq_getElem_cons hlt]
          rw [List.getElem?_eq_getElem hlt] at hv
          cases hv; rfl
        rw [hd, List.take_succ_cons]
        refine ⟨⟨hrel, by rw [show o + c + 1 = o + (c + 1) by omega]; exact ih1⟩, ?_⟩
        simp only [Nat.add_eq_zero_iff, Nat.one_ne_zero, and_false, if_false]
        split at ih2 <;> omega
      · cases h
    · cases h

theorem run_loadT {t : TypeId} {a tv : TV} {v : Value} {w : World} (h : (loadT P H t a).val = some tv) (hrep : Rep φ H w.heap) (ha : relT φ a v) :
    ∃ u, relT φ tv u ∧ (Instr.loadAt t v).run P w = .ok u w := by
  unfold loadT at h
  split at h
  · rename_i id o
    split at h
    · rename_i l hb
      obtain ⟨L, hL, h0, hsz, hreal⟩ := rep_blkC hrep hb
      obtain ⟨L', hL', rfl⟩ := ha
      rw [hL] at hL'; cases hL'
      split at h
      · rename_i hag
        split at h
        · rename_i n hn
          split at h
          · rename_i hle
            obtain ⟨hle, hn0⟩ := hle
            obtain rfl := val_ok h
            rcases hreal with hz | ⟨cs, ty, hcs, hrel⟩
            · omega
            have hlen := hrel.length_eq
            simp at hlen
            refine ⟨_, ⟨_, rfl, ?_⟩, by simp only [Instr.loadAt, Instr.sureAddr, Sem.run_bind, Sem.run_pure, Result.andThen_ok, h0, Nat.zero_add]; exact run_loadVar_at hcs hag hn (by omega)⟩
            exact (hrel.drop o).take n
          · simp [Tr.val] at h
        · simp [Tr.val] at h
      · rename_i hag
        rw [val_opt] at h
        obtain ⟨x, hx, rfl⟩ := Option.map_eq_some_iff.1 h
        rcases hreal with hz | ⟨cs, ty, hcs, hrel⟩
        · have : l = [] := List.length_eq_zero_iff.1 (by omega)
          rw [this] at hx; simp at hx
        obtain ⟨u, hu, hr⟩ := hrel.get hx
        exact ⟨u, hr, by simp only [Instr.loadAt, Instr.sureAddr, Sem.run_bind, Sem.run_pure, Result.andThen_ok, h0, Nat.zero_add]; exact run_loadVar_one hcs hag (by simpa using hu)⟩
      · simp [Tr.val] at h
    · simp [Tr.val] at h
  · rename_i id wd i c
    split at h
    · rename_i ks n g own hb
      split at h
      · rename_i hwd
        obtain ⟨L, hL, hLn, hn, hreal⟩ := hrep.blk _ _ (blk_some hb)
        obtain ⟨L', hL', hin, rfl⟩ := ha
        rw [hL] at hL'; cases hL'
        subst hwd
        have hi : i < n := by omega
        have hpos : ∀ {sk : SK}, ks[c]? = some sk → ∃ cs ty fr, w.heap[L.b]? = some (.cells cs ty fr) ∧ L.base + L.sz ≤ cs.size ∧
            ∀ (i c : Nat) (sk : SK), i < n → ks[c]? = some sk → ∃ v, cs[L.base + (i * ks.length + c)]? = some v ∧ relS φ (mkS sk (g i c)) v := by
          intro sk hsk
          rcases hreal with hz | ⟨cs, ty, fr, h1, h2, _, h4⟩
          · have hc : c < ks.length := by
              rcases Nat.lt_or_ge c ks.length with h' | h'
              · exact h'
              · simp [List.getElem?_eq_none h'] at hsk
            have : 1 * ks.length ≤ n * ks.length := Nat.mul_le_mul_right _ (by omega)
            omega
          · exact ⟨cs, ty, fr, h1, h2, h4⟩
        split at h
        · rename_i hag
          split at h
          · rename_i m hm
            split at h
            · simp [Tr.val] at h
            rename_i hm0
            rw [val_opt] at h
            obtain ⟨l, hl, rfl⟩ := Option.map_eq_some_iff.1 h
            obtain ⟨m', rfl⟩ : ∃ m', m = m' + 1 := ⟨m - 1, by omega⟩
            have hsk0 : ∃ sk, ks[c]? = some sk := by
              cases hsk : ks[c]? with
              | some sk => exact ⟨sk, rfl⟩
              | none => simp [rowCells, hsk] at hl
            obtain ⟨sk0, hsk0⟩ := hsk0
            obtain ⟨cs, ty, fr, hcs, hsz, hrows⟩ := hpos hsk0
            have hk : ∀ (c : Nat) (sk : SK), ks[c]? = some sk → ∃ v, cs.toList[(L.base + i * ks.length) + c]? = some v ∧ relS φ (mkS sk (g i c)) v := by
              intro c sk hsk
              obtain ⟨v, h1, h2⟩ := hrows i c sk hi hsk
              exact ⟨v, by rw [show L.base + i * ks.length + c = L.base + (i * ks.length + c) by omega]; simpa using h1, h2⟩
            obtain ⟨h1, h2⟩ := rowCells_rel hl hk
            refine ⟨_, ⟨_, rfl, h1⟩, ?_⟩
            simp only [Instr.loadAt, Instr.sureAddr, Sem.run_bind, Sem.run_pure, Result.andThen_ok]
            rw [if_neg (by omega)] at h2
            have := run_loadVar_at (P := P) (t := t) (n := m' + 1) (o := L.base + (i * ks.length + c)) hcs hag hm (by simp at h2; omega)
            rw [this, Nat.add_assoc]
          · simp [Tr.val] at h
        · rename_i hag
          split at h
          · rename_i sk hsk
            obtain rfl := val_ok h
            obtain ⟨cs, ty, fr, hcs, hsz, hrows⟩ := hpos hsk
            obtain ⟨u, h1, h2⟩ := hrows i c sk hi hsk
            exact ⟨u, h2, by simp only [Instr.loadAt, Instr.sureAddr, Sem.run_bind, Sem.run_pure, Result.andThen_ok]; exact run_loadVar_one hcs hag h1⟩
          · simp [Tr.val] at h
        · simp [Tr.val] at h
      · simp [Tr.val] at h
    · simp [Tr.val] at h
  · simp [Tr.val] at h

theorem allK_get {sk : SK} {ks : List SK} {n : Nat} : ∀ {len o : Nat}, allK sk ks n len o = true → ∀ j, j < len → ks[o + j * n]? = some sk
  | 0, o, _, j, hj => by omega
  | m + 1, o, h, j, hj => by
    simp only [allK] at h
    split at h
    · rename_i k hk
      split at h
      · rename_i hd
        have hd := of_decide_eq_true hd
        subst hd
        cases j with
        | zero => simpa using hk
        | succ j =>
          rw [← allK_get h j (by omega)]
          congr 1
          rw [Nat.add_mul]; omega
      · cases h
    · cases h

theorem kindX_get {ks : List SK} {n len o j : Nat} {sk : SK} (h : kindX ks n len o = some sk) (hj : j < len) : ks[o + j * n]? = some sk := by
  unfold kindX at h
  split at h
  · split at h
    · rename_i ha
      obtain rfl := Option.some.inj h
      exact allK_get ha j hj
    · cases h
  · cases h

theorem rowCellsX_eq {ks : List SK} {g : Nat → Int} {n len j : Nat} (hj : j < len) : ∀ {m o : Nat} {r : List AS}, rowCellsX ks g n len j m o = some r → rowCells ks g m (o + j * n) = some r
  | 0, _, _, h => h
  | m + 1, o, r, h => by
    simp only [rowCellsX] at h
    split at h
    · rename_i sk hsk
      split at h
      · rename_i r' hr
        obtain rfl := Option.some.inj h
        have e := rowCellsX_eq hj hr
        rw [show o + 1 + j * n = o + j * n + 1 by omega] at e
        simp only [rowCells, kindX_get hsk hj, e]
      · cases h
    · cases h

theorem px_p {id n o len j c : Nat} {v : Value} (h : relS φ (.px id 0 0 o n len j c) v) : j < len ∧ relS φ (.p id (o + j * n + c)) v := by
  obtain ⟨L, hL, hj, _, rfl⟩ := h
  exact ⟨hj, L, hL, by simp⟩

theorem px_pr {id wd i n o len j c : Nat} {v : Value} (hw : wd ≠ 0) (h : relS φ (.px id wd i o n len j c) v) : j < len ∧ relS φ (.pr id wd i (o + j * n + c)) v := by
  obtain ⟨L, hL, hj, hi, rfl⟩ := h
  rcases hi with h0 | hi
  · exact (hw h0).elim
  · exact ⟨hj, L, hL, hi, rfl⟩

theorem run_loadO {t : TypeId} {a tv : TV} {v : Value} {w : World} (h : (loadO P H t a).val = some tv) (hrep : Rep φ H w.heap) (ha : relT φ a v) :
    ∃ u, relT φ tv u ∧ (Instr.loadAt t v).run P w = .ok u w := by
  unfold loadO at h
  split at h
  · rename_i id wd i o n len j c
    unfold loadX at h
    split at h
    · rename_i l hb
      split at h
      · rename_i hw
        obtain ⟨rfl, rfl⟩ := hw
        obtain ⟨hj, ha'⟩ := px_p ha
        refine run_loadT (a := .v (.s (.p id (o + j * n + c)))) ?_ hrep ha'
        simp only [loadT, hb]
        split at h
        · split at h
          · rename_i m hm
            split at h
            · simp [Tr.val] at h
            rename_i hm0
            rw [val_opt] at h
            obtain ⟨r, hr, rfl⟩ := Option.map_eq_some_iff.1 h
            obtain ⟨rfl, e2⟩ := selSs_get hj hr
            have e2 := e2 hm0
            rw [if_pos ⟨by omega, hm0⟩, show o + c + j * n = o + j * n + c by omega]
            rfl
          · simp [Tr.val] at h
        · rw [val_opt] at h
          obtain ⟨r, hr, rfl⟩ := Option.map_eq_some_iff.1 h
          have e := selS_get hr hj
          rw [show o + c + j * n = o + j * n + c by omega] at e
          simp only [*, val_opt, Option.map_some]
        · simp [Tr.val] at h
      · simp [Tr.val] at h
    · rename_i ks m g own hb
      have hb := blkC_rows hb
      split at h
      · rename_i hw
        obtain ⟨rfl, hw0⟩ := hw
        obtain ⟨hj, ha'⟩ := px_pr hw0 ha
        refine run_loadT (a := .v (.s (.pr id ks.length i (o + j * n + c)))) ?_ hrep ha'
        simp only [loadT, hb, if_true]
        split at h
        · split at h
          · rename_i m hm
            split at h
            · simp [Tr.val] at h
            rename_i hm0
            rw [val_opt] at h
            obtain ⟨r, hr, rfl⟩ := Option.map_eq_some_iff.1 h
            have e := rowCellsX_eq hj hr
            rw [show o + c + j * n = o + j * n + c by omega] at e
            simp only [*, if_false, val_opt, Option.map_some]
          · simp [Tr.val] at h
        · split at h
          · rename_i sk hsk
            obtain rfl := val_ok h
            have e := kindX_get hsk hj
            rw [show o + c + j * n = o + j * n + c by omega] at e
            simp only [*]
            rw [show o + c + j * n = o + j * n + c by omega]
            rfl
          · simp [Tr.val] at h
        · simp [Tr.val] at h
      · simp [Tr.val] at h
    · simp [Tr.val] at h
  · exact run_loadT h hrep ha

/-! ### rows with members -/

theorem missK_get {c0 n : Nat} : ∀ {len o : Nat}, missK c0 n len o = true → ∀ j, j < len → o + j * n ≠ c0
  | 0, _, _, j, hj => by omega
  | m + 1, o, h, j, hj => by
    simp only [missK] at h
    split at h
    · cases h
    · rename_i hb
      cases j with
      | zero =>
        intro e
        rw [Nat.zero_mul, Nat.add_zero] at e
        subst e
        simp at hb
      | succ j =>
        have := missK_get h j (by omega)
        rw [Nat.add_mul]
        omega

theorem isAll_has {ow : Ow} (h : isAll ow = true) (i : Nat) : ow.has i := by
  cases ow <;> first | trivial | (cases h)

theorem mem_rel {id F wd i len : Nat} {L LF : Loc} {heap : Array Obj} {ms : List SK} {own : Bool} {hi : Nat → Int} (hL : φ[id]? = some L) (hF : φ[F]? = some LF) (hin : i < L.n) (h : MemRep φ heap ms own len hi (LF.x.mem i)) :
    relS φ (.mem id F wd i len) (LF.x.mem i) := by
  refine ⟨L, LF, hL, hF, hin, rfl, ?_⟩
  rcases h with h | ⟨b, o, cap, cs, t, fr, hv, h1, h2, _⟩
  · exact .inl h
  · exact .inr ⟨b, o, cap, hv, h1, h2⟩

theorem nCell_rel {ks : List SK} {c0 wm id F i c : Nat} {ow : Ow} {g : Nat → Nat → Int} {cs : List Value} {o : Nat} {a : AS} {L LF : Loc} (h : nCell ks c0 wm id F ow i g c = some a) (hc0 : c0 < ks.length)
    (hk : ∀ (c : Nat) (sk : SK), ks[c]? = some sk → ∃ v, cs[o + c]? = some v ∧ (c ≠ c0 → relS φ (mkS sk (g i c)) v) ∧ (c = c0 → ow.has i → v = LF.x.mem i))
    (hm : ow.has i → relS φ (.mem id F wm i (g i c0).toNat) (LF.x.mem i)) : ∃ v, cs[o + c]? = some v ∧ relS φ a v := by
  unfold nCell at h
  split at h
  · rename_i hb
    have := Nat.eq_of_beq_eq_true hb
    subst this
    split at h
    · cases h
      obtain ⟨v, h1, _, h3⟩ := hk c _ (List.getElem?_eq_getElem hc0)
      refine ⟨v, h1, ?_⟩
      rw [h3 rfl trivial]
      exact hm trivial
    · cases h
  · rename_i hb
    split at h
    · rename_i sk hsk
      cases h
      obtain ⟨v, h1, h2, _⟩ := hk c sk hsk
      exact ⟨v, h1, h2 (fun e => by subst e; simp at hb)⟩
    · cases h

theorem nCells_rel {ks : List SK} {c0 wm id F i : Nat} {ow : Ow} {g : Nat → Nat → Int} {cs : List Value} {o : Nat} {L LF : Loc} (hc0 : c0 < ks.length)
    (hk : ∀ (c : Nat) (sk : SK), ks[c]? = some sk → ∃ v, cs[o + c]? = some v ∧ (c ≠ c0 → relS φ (mkS sk (g i c)) v) ∧ (c = c0 → ow.has i → v = LF.x.mem i))
    (hm : ow.has i → relS φ (.mem id F wm i (g i c0).toNat) (LF.x.mem i)) : ∀ {n c : Nat} {l : List AS}, nCells ks c0 wm id F ow i g n c = some l →
    All2 (relS φ) l ((cs.drop (o + c)).take n) ∧ o + c + n ≤ cs.length + (if n = 0 then o + c else 0)
  | 0, c, l, h => by simp [nCells] at h; subst h; simp [All2]
  | n + 1, c, l, h => by
    simp only [nCells] at h
    split at h
    · rename_i a ha
      split at h
      · rename_i r hr
        obtain rfl := Option.some.inj h
        obtain ⟨v, hv, hrel⟩ := nCell_rel (L := L) ha hc0 hk hm
        obtain ⟨ih1, ih2⟩ := nCells_rel (L := L) hc0 hk hm (n := n) (c := c + 1) hr
        have hlt : o + c < cs.length := by
          rcases Nat.lt_or_ge (o + c) cs.length with h' | h'
          · exact h'
          · simp [List.getElem?_eq_none h'] at hv
        have hd : cs.drop (o + c) = v :: cs.drop (o + c + 1) := by
          rw [List.drop_eq_getElem_cons hlt]
          rw [List.getElem?_eq_getElem hlt] at hv
          cases hv; rfl
        rw [hd, List.take_succ_cons]
        refine ⟨⟨hrel, by rw [show o + c + 1 = o + (c + 1) by omega]; exact ih1⟩, ?_⟩
        simp only [Nat.add_eq_zero_iff, Nat.one_ne_zero, and_false, if_false]
        split at ih2 <;> omega
      · cases h
    · cases h

theorem nrow_at {id i : Nat} {ks : List SK} {c0 : Nat} {ms : List SK} {n : Nat} {g h : Nat → Nat → Int} {F : Nat} {ow : Ow} {own : Bool} {heap : Array Obj} {L : Loc} (hrep : Rep φ H heap) (hb : blk H id = some (.nrows ks c0 ms n g h F ow own)) (hL : φ[id]? = some L) (hin : i < L.n) :
    ∃ LF cs ty fr, φ[F]? = some LF ∧ heap[L.b]? = some (.cells cs ty fr) ∧ c0 < ks.length ∧ L.n = n ∧ n * ks.length ≤ L.sz ∧ L.base + L.sz ≤ cs.size ∧ (own = true → L.base = 0 ∧ fr = (0, 0)) ∧ 0 < L.sz ∧ i * ks.length + ks.length ≤ n * ks.length ∧
      (∀ (c : Nat) (sk : SK), ks[c]? = some sk → ∃ v, cs.toList[(L.base + i * ks.length) + c]? = some v ∧ (c ≠ c0 → relS φ (mkS sk (g i c)) v) ∧ (c = c0 → ow.has i → v = LF.x.mem i)) ∧
      (ow.has i → 0 ≤ g i c0 ∧ MemRep φ heap ms own (g i c0).toNat (h i) (LF.x.mem i)) := by
  obtain ⟨L', hL', hLn, hn, hc0, LF, hF, hreal, hmem, _⟩ := hrep.blk _ _ (blk_some hb)
  rw [hL] at hL'; cases hL'
  have hi : i < n := by omega
  have hbound : i * ks.length + ks.length ≤ n * ks.length := by
    have : (i + 1) * ks.length ≤ n * ks.length := Nat.mul_le_mul_right _ hi
    rw [Nat.add_mul] at this; omega
  rcases hreal with hz | ⟨cs, ty, fr, h1, h2, h3, h4⟩
  · omega
  · refine ⟨LF, cs, ty, fr, hF, h1, hc0, hLn, hn, h2, h3, by omega, hbound, fun c sk hsk => ?_, hmem i hi⟩
    obtain ⟨v, e1, e2⟩ := h4 i c sk hi hsk
    exact ⟨v, by rw [show L.base + i * ks.length + c = L.base + (i * ks.length + c) by omega]; simpa using e1, e2⟩

theorem mem_at {id F wd i j len0 cap0 b ob : Nat} {ks : List SK} {c0 : Nat} {ms : List SK} {n : Nat} {g h : Nat → Nat → Int} {ow : Ow} {own : Bool} {heap : Array Obj} {L LF : Loc} (hrep : Rep φ H heap) (hb : blk H id = some (.nrows ks c0 ms n g h F ow own)) (hwd : wd = ms.length)
    (ho : isAll ow = true) (hL : φ[id]? = some L) (hF : φ[F]? = some LF) (hin : i < L.n) (hm : LF.x.mem i = .slice (some ⟨b, ob, none⟩) len0 cap0) (hj : j < len0) :
    ∃ cs ty fr, heap[b]? = some (.cells cs ty fr) ∧ len0 = (g i c0).toNat ∧ ob + cap0 * wd ≤ cs.size ∧ len0 ≤ cap0 ∧ 0 < cap0 ∧ (own = true → ob = 0 ∧ fr = (0, 0)) ∧
      ∀ (j c : Nat) (sk : SK), j < len0 → ms[c]? = some sk → ∃ u, cs[ob + (j * wd + c)]? = some u ∧ relS φ (mkS sk (h i (j * wd + c))) u := by
  subst hwd
  obtain ⟨LF', cs0, _, _, hF', _, _, _, _, _, _, _, _, _, hmem⟩ := nrow_at hrep hb hL hin
  rw [hF] at hF'; cases hF'
  obtain ⟨_, hmem⟩ := hmem (isAll_has ho i)
  rw [hm] at hmem
  rcases hmem with ⟨h0, a, e⟩ | ⟨b', o', cap', cs, t, fr, hv, k1, k2, k3, k4, k5, k6⟩
  · cases e; omega
  · cases hv
    exact ⟨cs, t, fr, k3, rfl, k4, k2, k1, k5, k6⟩

theorem run_loadN {t : TypeId} {a tv : TV} {v : Value} {w : World} {r : Tr TV} (h0 : loadN P H t a = some r) (h : r.val = some tv) (hrep : Rep φ H w.heap) (ha : relT φ a v) :
    ∃ u, relT φ tv u ∧ (Instr.loadAt t v).run P w = .ok u w := by
  unfold loadN at h0
  split at h0
  · rename_i id wd i c
    split at h0
    · rename_i ks c0 ms n g hh F ow own hb
      obtain rfl := Option.some.inj h0
      split at h
      · rename_i hwd
        subst hwd
        obtain ⟨L, hL, hin, rfl⟩ := ha
        obtain ⟨LF, cs, ty, fr, hF, hcs, hc0, hLn, hn, hsz, _, _, hbnd, hk, hm⟩ := nrow_at hrep hb hL hin
        have hmr : ow.has i → relS φ (.mem id F ms.length i (g i c0).toNat) (LF.x.mem i) := fun ho => mem_rel hL hF hin (hm ho).2
        split at h
        · rename_i hag
          split at h
          · rename_i m hm'
            split at h
            · simp [Tr.val] at h
            rename_i hm0
            rw [val_opt] at h
            obtain ⟨l, hl, rfl⟩ := Option.map_eq_some_iff.1 h
            obtain ⟨h1, h2⟩ := nCells_rel (L := L) hc0 hk hmr hl
            refine ⟨_, ⟨_, rfl, h1⟩, ?_⟩
            simp only [Instr.loadAt, Instr.sureAddr, Sem.run_bind, Sem.run_pure, Result.andThen_ok]
            rw [if_neg hm0] at h2
            have := run_loadVar_at (P := P) (t := t) (n := m) (o := L.base + (i * ks.length + c)) hcs hag hm' (by simp at h2; omega)
            rw [this, Nat.add_assoc]
          · simp [Tr.val] at h
        · rename_i hag
          rw [val_opt] at h
          obtain ⟨x, hx, rfl⟩ := Option.map_eq_some_iff.1 h
          obtain ⟨u, h1, h2⟩ := nCell_rel (L := L) hx hc0 hk hmr
          refine ⟨u, h2, ?_⟩
          simp only [Instr.loadAt, Instr.sureAddr, Sem.run_bind, Sem.run_pure, Result.andThen_ok]
          exact run_loadVar_one hcs hag (by rw [← Nat.add_assoc]; simpa using h1)
        · simp [Tr.val] at h
      · simp [Tr.val] at h
    · cases h0
  · rename_i id wd i o n len j c
    split at h0
    · rename_i ks c0 ms n' g hh F ow own hb
      obtain rfl := Option.some.inj h0
      split at h
      · rename_i hwd
        obtain ⟨rfl, hw0⟩ := hwd
        obtain ⟨hj, L, hL, hin, rfl⟩ := px_pr hw0 ha
        obtain ⟨LF, cs, ty, fr, hF, hcs, hc0, hLn, hn, hsz, _, _, hbnd, hk, hm⟩ := nrow_at hrep hb hL hin
        split at h
        · rename_i hag
          split at h
          · rename_i sk hmiss hsk
            obtain rfl := val_ok h
            have h1 := kindX_get hsk hj
            have h2 := missK_get hmiss j hj
            obtain ⟨u, e1, e2, _⟩ := hk _ _ h1
            refine ⟨u, e2 h2, ?_⟩
            simp only [Instr.loadAt, Instr.sureAddr, Sem.run_bind, Sem.run_pure, Result.andThen_ok]
            refine run_loadVar_one hcs hag ?_
            rw [show L.base + (i * ks.length + (o + j * n + c)) = L.base + i * ks.length + (o + c + j * n) by omega]
            simpa using e1
          · simp [Tr.val] at h
        · simp [Tr.val] at h
      · simp [Tr.val] at h
    · cases h0
  · rename_i id F wd i j o n len jj c
    obtain rfl := Option.some.inj h0
    split at h
    · rename_i ks c0 ms n' g hh F' ow own hb
      split at h
      · rename_i hwd
        obtain ⟨rfl, rfl, ho⟩ := hwd
        obtain ⟨L, LF, b, ob, l0, cap0, hL, hF, hin, hm, hj, hjj, rfl⟩ := ha
        obtain ⟨cs, ty, fr, hcs, hl0, hsz, hle, hcap, _, hk⟩ := mem_at hrep hb rfl ho hL hF hin hm hj
        split at h
        · rename_i hag
          split at h
          · rename_i m hm'
            split at h
            · simp [Tr.val] at h
            rename_i hm0
            rw [val_opt] at h
            obtain ⟨l, hl, rfl⟩ := Option.map_eq_some_iff.1 h
            have hk' : ∀ (c : Nat) (sk : SK), ms[c]? = some sk → ∃ v, cs.toList[(ob + j * ms.length) + c]? = some v ∧ relS φ (mkS sk (hh i (j * ms.length + c))) v := by
              intro c sk hsk
              obtain ⟨v, h1, h2⟩ := hk j c sk hj hsk
              exact ⟨v, by rw [show ob + j * ms.length + c = ob + (j * ms.length + c) by omega]; simpa using h1, h2⟩
            obtain ⟨h1, h2⟩ := rowCells_rel hl hk'
            refine ⟨_, ⟨_, rfl, h1⟩, ?_⟩
            simp only [Instr.loadAt, Instr.sureAddr, Sem.run_bind, Sem.run_pure, Result.andThen_ok]
            rw [if_neg hm0] at h2
            have := run_loadVar_at (P := P) (t := t) (n := m) (o := ob + (j * ms.length + (o + 0 * n + c))) hcs hag hm' (by simp at h2 ⊢; omega)
            rw [this]
            simp [Nat.add_assoc]
          · simp [Tr.val] at h
        · rename_i hag
          split at h
          · rename_i sk hsk
            obtain rfl := val_ok h
            have h1 := kindX_get hsk hjj
            obtain ⟨u, e1, e2⟩ := hk j _ _ hj h1
            refine ⟨u, e2, ?_⟩
            simp only [Instr.loadAt, Instr.sureAddr, Sem.run_bind, Sem.run_pure, Result.andThen_ok]
            refine run_loadVar_one hcs hag ?_
            rw [show o + jj * n + c = o + c + jj * n by omega]
            exact e1
          · simp [Tr.val] at h
        · simp [Tr.val] at h
      · simp [Tr.val] at h
    · simp [Tr.val] at h
  · cases h0

theorem run_loadS {t : TypeId} {a tv : TV} {v : Value} {w : World} (h : (loadS P H t a).val = some tv) (hrep : Rep φ H w.heap) (ha : relT φ a v) :
    ∃ u, relT φ tv u ∧ (Instr.loadAt t v).run P w = .ok u w := by
  unfold loadS at h
  split at h
  · rename_i r hr
    exact run_loadN hr h hrep ha
  · exact run_loadO h hrep ha

end
end Go.AM
end

/-
  The abstract machine, part 6: each operation is sound.
-/
section
namespace Go.AM

section
variable {P : Program} {Γ : Specs} {φ : Phi} {H : AH} {ρ : Operand → TV} {e : Operand → Value}

theorem map_rel (hρ : ∀ x, relT φ (ρ x) (e x)) : ∀ (xs : List Operand), All2 (relT φ) (xs.map ρ) (xs.map e)
  | [] => trivial
  | x :: xs => ⟨hρ x, map_rel hρ xs⟩

theorem does_call (hΓ : SpecOK P Γ) {f : FuncId} {targs : List TV} {args : List Value} {tv : TV} {H' : AH} {w : World} (h : ((Γ f).app targs H).val = some (tv, H')) (hrep : Rep φ H w.heap)
    (hargs : All2 (relT φ) targs args) : Does P φ H w ((callFunc f args.toArray).run P w) tv H' := by
  rcases hΓ f with h0 | ⟨⟨fn, h1, h2, h3⟩, hall, _⟩
  · rw [h0] at h; cases h
  · refine .inr ⟨f, args.toArray, ?_, hall φ H w targs args tv H' h hrep hargs⟩
    simp only [callFunc, Sem.run_bind, run_program, Result.andThen_ok, h1, h2, h3]
    rfl

theorem execOp_call_func {o : Oper} {c : Call} {f : FuncId} (ho : o.op = .call c) (hc : c.callee = .value (.func f)) (he : e (.func f) = .func (.func f) #[] #[]) (w : World) :
    (execOp e o).run P w = (callFunc f (c.args.map e)).run P w := by
  simp [execOp, ho, resolve, hc, he, Deferred.ofValue, invoke]

theorem rep_pushN {heap : Array Obj} {o : Obj} (h : Rep φ H heap) : Rep φ H (heap.push o) ∧ ExtH φ H heap φ H (heap.push o) := by
  have hg : ∀ b, b < heap.size → (heap.push o)[b]? = heap[b]? := fun b hlt => by rw [Array.getElem?_push, if_neg (Nat.ne_of_lt hlt)]
  refine ⟨⟨h.len, fun id B hB => ?_, h.apart⟩, ⟨by simp, ⟨[], by simp⟩, fun b hb _ => hg b hb, fun id B L b h1 h2 h3 => .inr ⟨id, B, L, h1, h2, h3, fun h => h⟩⟩⟩
  obtain ⟨L, hL, hR⟩ := h.blk id B hB
  exact ⟨L, hL, hR.of_heap fun b hf => hg b (hR.lt hf)⟩

theorem stepN_sound (hΓ : SpecOK P Γ) (hρ : ∀ x, relT φ (ρ x) (e x)) (hf : ∀ f, e (.func f) = .func (.func f) #[] #[]) {o : Oper} {y : Option Nat} {tv : TV} {w : World} (h : (stepN P Γ y ρ o.op).val = some tv) (hrep : Rep φ H w.heap) :
    Does P φ H w ((execOp e o).run P w) tv H := by
  have fin : ∀ {s : Sem Value}, execOp e o = (do pure (.value (← s))) → (∃ v, relT φ tv v ∧ ∀ w, s.run P w = .ok v w) → Does P φ H w ((execOp e o).run P w) tv H := by
    intro s hs ⟨v, hv, hrun⟩
    exact Does.value (by rw [hs]; simp [hrun]) hv hrep
  unfold stepN at h
  split at h
  · rename_i x hop
    obtain rfl := val_ok h
    exact Does.value (by simp [execOp, hop]) (hρ x) hrep
  · rename_i x hop
    obtain rfl := val_ok h
    exact Does.value (by simp [execOp, hop]) (hρ x) hrep
  · rename_i c a b hop
    split at h
    · rename_i x hc
      have hcv := hρ c
      rw [hc] at hcv
      simp only [relT, relA, relS] at hcv
      have := run_pickT h (hρ a) (hρ b)
      refine Does.value ?_ this hrep
      simp [execOp, hop, hcv, asBool]
    · simp [Tr.val] at h
  · rename_i t parts hop
    split at h
    · rename_i ps hps
      rw [val_opt] at h
      refine fin (s := Instr.build t (parts.map fun x => (x.1, e x.2))) (by simp [execOp, hop]) (run_buildT h ?_)
      have := partsT_rel hρ hps
      simpa using this
    · simp [Tr.val] at h
  · rename_i t len parts hop
    split at h
    · rename_i hparts
      split at h
      · rename_i el hu
        split at h
        · rename_i n hn
          obtain rfl := val_ok h
          have hpa : parts = #[] := by apply Array.ext'; simpa using hparts
          subst hpa
          obtain ⟨r1, r2⟩ := rep_pushN (o := .cells #[] el) hrep
          refine .inl ⟨.slice (some ⟨w.heap.size, 0, none⟩) 0 0, { w with heap := w.heap.push (.cells #[] el) }, φ, .inl ?_, ⟨_, rfl⟩, r1, ⟨r2, rfl, rfl, rfl⟩⟩
          simp [execOp, hop, Instr.buildSlice, run_underlying hu, run_size hn, Instr.fill, newRow, Array.range_zero']
        · simp [Tr.val] at h
      · simp [Tr.val] at h
    · simp [Tr.val] at h
  · rename_i x hop
    have hx := hρ x
    split at h
    · rename_i id o' hx'
      obtain rfl := val_ok h
      rw [hx'] at hx
      refine Does.value ?_ hx hrep
      obtain ⟨L, hL, hv⟩ := hx
      simp [execOp, hop, hv]
    · rename_i id wd i c hx'
      obtain rfl := val_ok h
      rw [hx'] at hx
      refine Does.value ?_ hx hrep
      obtain ⟨L, hL, hn, hv⟩ := hx
      simp [execOp, hop, hv]
    · rename_i id wd i o n len j c hx'
      obtain rfl := val_ok h
      rw [hx'] at hx
      refine Does.value ?_ hx hrep
      obtain ⟨L, hL, hj, hn, hv⟩ := hx
      simp [execOp, hop, hv]
    · rename_i id F wd i j o n len jj c hx'
      obtain rfl := val_ok h
      rw [hx'] at hx
      refine Does.value ?_ hx hrep
      obtain ⟨_, _, _, _, _, _, _, _, _, _, _, _, hv⟩ := hx
      simp [execOp, hop, hv]
    · simp [Tr.val] at h
  · rename_i op t a b yt hop
    exact fin (s := do eqGuard op t a b (e a) (e b); binOp op t (e a) (e b)) (by simp [execOp, hop]) (run_binT a b h (hρ a) (hρ b))
  · rename_i op t a hop
    exact fin (s := Op.unary op (e a)) (by simp [execOp, hop]) (run_unT h (hρ a))
  · rename_i s d x hop
    rw [val_opt] at h
    exact fin (s := convert s d (e x)) (by simp [execOp, hop]) (run_convT h (hρ x))
  · rename_i f first captured hop
    split at h
    · rename_i l h1 h2
      obtain rfl := val_ok h
      have hcap := capsT_rel hρ h2
      have h1' : first = #[] := by apply Array.ext'; simpa using h1
      refine Does.value (v := .func (.func f) #[] (captured.map e)) (by simp [execOp, hop, Instr.makeFunc, h1']) ?_ hrep
      exact ⟨captured.toList.map e, by congr 1; apply Array.ext'; simp, hcap⟩
    · simp [Tr.val] at h
  · rename_i t x lo hi mx hop
    exact fin (s := Instr.sliceAt t (e x) (lo.map e) (hi.map e) (mx.map e)) (by simp [execOp, hop]) (run_sliceT hρ h (hρ x))
  · rename_i arr x hop
    rw [val_opt] at h
    exact fin (s := Instr.arrayAt arr (e x)) (by simp [execOp, hop]) (run_arrPtrT h (hρ x))
  · rename_i s x f hop
    rw [val_opt] at h
    exact fin (s := Instr.fieldAt s (e x) f) (by simp [execOp, hop]) (run_fieldAddrT h (hρ x))
  · rename_i s x f hop
    rw [val_opt] at h
    exact fin (s := Instr.field s (e x) f) (by simp [execOp, hop]) (run_fieldT h (hρ x))
  · rename_i t x ix hop
    exact fin (s := Instr.indexAt t (e x) (e ix)) (by simp [execOp, hop]) (run_indexAddrS h (hρ x) (hρ ix))
  · rename_i t x ix hop
    exact fin (s := Instr.index t (e x) (e ix)) (by simp [execOp, hop]) (run_indexS h (hρ x) (hρ ix))
  · rename_i x i hop
    rw [val_opt] at h
    exact fin (s := Instr.extract (e x) i) (by simp [execOp, hop]) (run_extractT h (hρ x))
  · rename_i c hop
    split at h
    · rename_i f hc
      split at h
      · rename_i F hF
        have := does_call (H' := H) hΓ (f := f) (targs := c.args.toList.map ρ) (args := c.args.toList.map e) (tv := tv) (w := w) (by rw [hF]; simp [Spec.app, Tr.val_bind, h, Tr.val]) hrep (map_rel hρ _)
        rw [execOp_call_func hop hc (hf f)]
        have e1 : (List.map e c.args.toList).toArray = c.args.map e := by apply Array.ext'; simp
        rw [e1] at this
        exact this
      · simp [Tr.val] at h
    · rename_i hc
      split at h
      · rename_i t x h1 h2
        rw [val_opt] at h
        have e1 : c.argTypes = #[t] := by apply Array.ext'; simpa using h1
        have e2 : c.args = #[x] := by apply Array.ext'; simpa using h2
        refine fin (s := Builtin.len_ #[t] o.type #[e x]) ?_ (run_lenT h (hρ x))
        simp [execOp, hop, resolve, hc, invoke, builtin, e1, e2]
      · simp [Tr.val] at h
    · rename_i hc
      split at h
      · rename_i x rest h2
        rw [Tr.val_bind, val_opt] at h
        obtain ⟨tv0, h, h'⟩ := Option.bind_eq_some_iff.1 h
        obtain rfl := splitTV_val h'
        refine fin (s := (rest.map e).foldlM Builtin.min2 (e x)) ?_ (run_minT h (hρ x) (map_rel hρ rest))
        have e2 : (c.args.map e).toList = e x :: rest.map e := by simp [h2]
        simp [execOp, hop, resolve, hc, invoke, builtin, Builtin.min_, h2]
      · simp [Tr.val] at h
    · rename_i hc
      split at h
      · rename_i x rest h2
        rw [val_opt] at h
        refine fin (s := (rest.map e).foldlM Builtin.max2 (e x)) ?_ (run_maxT h (hρ x) (map_rel hρ rest))
        simp [execOp, hop, resolve, hc, invoke, builtin, Builtin.max_, h2]
      · simp [Tr.val] at h
    · simp [Tr.val] at h
  · simp [Tr.val] at h

theorem viewT_rel {x : TV} {v : Value} {id wd i len : Nat} (h : viewT x = some (id, wd, i, len)) (hx : relT φ x v) :
    (len = 0 ∧ ∃ a, v = .slice a 0 0) ∨ ∃ L cap, φ[id]? = some L ∧ len ≤ cap ∧ i + len ≤ L.n ∧ v = .slice (some ⟨L.b, L.base + i * wd, none⟩) len cap := by
  unfold viewT at h
  split at h
  · cases h
    rcases hx with ⟨h2, _, a0, rfl⟩ | ⟨L, cap, hL, hle, hcp, hnn, hsz, rfl⟩
    · exact .inl ⟨h2, a0, rfl⟩
    · exact .inr ⟨L, cap, hL, by omega, by omega, rfl⟩
  · cases h
    rcases hx with ⟨h2, a0, rfl⟩ | ⟨L, hL, hnn, hsz, rfl⟩
    · exact .inl ⟨h2, a0, rfl⟩
    · exact .inr ⟨L, len, hL, Nat.le_refl _, hnn, rfl⟩
  · cases h
    exact hx
  · cases h
    rcases slr_of_slw hx with ⟨h2, _, a0, rfl⟩ | ⟨L, cap, hL, hle, hcp, hnn, hsz, rfl⟩
    · exact .inl ⟨h2, a0, rfl⟩
    · exact .inr ⟨L, cap, hL, by omega, by omega, rfl⟩
  · cases h
    rcases hx with ⟨h2, a, rfl⟩ | hx
    · exact .inl ⟨h2, _, rfl⟩
    · exact .inr hx
  · cases h

theorem view_cells {heap : Array Obj} {id i len : Nat} {ks : List SK} {n : Nat} {g : Nat → Nat → Int} {own : Bool} {L : Loc} (hrep : Rep φ H heap) (hb : blk H id = some (.rows ks n g own)) (hL : φ[id]? = some L) (hin : i + len ≤ L.n)
    (hpos : 0 < len * ks.length) : ∃ cs ty fr, heap[L.b]? = some (.cells cs ty fr) ∧ L.base + (i * ks.length + len * ks.length) ≤ cs.size ∧
      ∀ (j c : Nat) (sk : SK), j < len → ks[c]? = some sk → ∃ v, cs[L.base + ((i + j) * ks.length + c)]? = some v ∧ relS φ (mkS sk (g (i + j) c)) v := by
  obtain ⟨L', hL', hLn, hn, hreal⟩ := hrep.blk _ _ (blk_some hb)
  rw [hL] at hL'; cases hL'
  have h1 : (i + len) * ks.length ≤ n * ks.length := Nat.mul_le_mul_right _ (by omega)
  rw [Nat.add_mul] at h1
  rcases hreal with hz | ⟨cs, ty, fr, h2, h3, _, h4⟩
  · omega
  · exact ⟨cs, ty, fr, h2, by omega, fun j c sk hj hc => h4 (i + j) c sk (by omega) hc⟩

theorem bytes_run {f : Value → ByteArray → Sem (ForInStep ByteArray)} (hf : ∀ n s w, (f (.int .u8 n) s).run P w = .ok (.yield (s.push (UInt8.ofNat n.toNat))) w) : ∀ (cs : List Value) (l : List UInt8) (s : ByteArray) (w : World), All2 (fun (b : UInt8) v => ∃ x : Int, v = .int .u8 x ∧ b = UInt8.ofNat x.toNat) l cs →
    (forIn cs s f).run P w = .ok ⟨(s.data.toList ++ l).toArray⟩ w
  | [], [], s, w, _ => by simp
  | c :: cs, b :: l, s, w, h => by
    obtain ⟨⟨x, rfl, rfl⟩, h2⟩ := h
    simp only [List.forIn_cons, Sem.run_bind, hf, Result.andThen_ok]
    rw [bytes_run hf cs l _ w h2]
    simp [ByteArray.push]
  | [], _ :: _, _, _, h => h.elim
  | _ :: _, [], _, _, h => h.elim

theorem view_load {x : TV} {v : Value} {id wd i len : Nat} {ks : List SK} {n : Nat} {g : Nat → Nat → Int} {own : Bool} {w : World} (hv : viewT x = some (id, wd, i, len)) (hx : relT φ x v) (hrep : Rep φ H w.heap) (hb : blk H id = some (.rows ks n g own)) (hwd : wd = ks.length) :
    ∃ cells : List Value, cells.length = len * wd ∧ (∀ (j c : Nat) (sk : SK), j < len → ks[c]? = some sk → ∃ u, cells[j * wd + c]? = some u ∧ relS φ (mkS sk (g (i + j) c)) u) ∧
      ((len = 0 ∧ ∃ a, v = .slice a 0 0) ∨ ∃ L cap, φ[id]? = some L ∧ len ≤ cap ∧ v = .slice (some ⟨L.b, L.base + i * wd, none⟩) len cap ∧ ∀ j u, cells[j]? = some u → w.cell? ((⟨L.b, L.base + i * wd, none⟩ : Addr).add j) = some u) := by
  subst hwd
  rcases viewT_rel hv hx with ⟨h0, a, rfl⟩ | ⟨L, cap, hL, hle, hin, rfl⟩
  · subst h0
    exact ⟨[], by simp, fun j c sk hj => by omega, .inl ⟨rfl, a, rfl⟩⟩
  · rcases Nat.eq_zero_or_pos (len * ks.length) with hz | hpos
    · refine ⟨[], by simp [hz], fun j c sk hj hc => ?_, .inr ⟨L, cap, hL, hle, rfl, fun j u h => by simp at h⟩⟩
      have hc' : c < ks.length := (List.getElem?_eq_some_iff.1 hc).1
      rcases Nat.mul_eq_zero.1 hz with h | h <;> omega
    · obtain ⟨cs, ty, fr, h1, h2, h3⟩ := view_cells hrep hb hL hin hpos
      refine ⟨(cs.toList.drop (L.base + i * ks.length)).take (len * ks.length), ?_, fun j c sk hj hc => ?_, .inr ⟨L, cap, hL, hle, rfl, fun j u h => ?_⟩⟩
      · simp; omega
      · obtain ⟨u, h4, h5⟩ := h3 j c sk hj hc
        have hc' : c < ks.length := (List.getElem?_eq_some_iff.1 hc).1
        have hlt : j * ks.length + c < len * ks.length := by
          have : (j + 1) * ks.length ≤ len * ks.length := Nat.mul_le_mul_right _ hj
          rw [Nat.add_mul] at this
          omega
        refine ⟨u, ?_, h5⟩
        rw [List.getElem?_take, if_pos hlt, List.getElem?_drop, ← h4, Array.getElem?_toList]
        congr 1
        rw [Nat.add_mul]
        omega
      · rw [List.getElem?_take] at h
        split at h
        · rw [List.getElem?_drop, Array.getElem?_toList] at h
          simp only [add_zero_off, World.cell?, h1]
          simpa using h
        · cases h

theorem run_bytesStrT {s d : TypeId} {x tv : TV} {v : Value} {w : World} (h : bytesStrT P H s d x = some tv) (hrep : Rep φ H w.heap) (ha : relT φ x v) :
    ∃ u, relT φ tv u ∧ (convert s d v).run P w = .ok u w := by
  unfold bytesStrT at h
  split at h
  · rename_i e hs hd
    split at h
    · rename_i he
      split at h
      · rename_i id wd i len hv
        split at h
        · rename_i ks n g own hb
          split at h
          · rename_i hk
            obtain ⟨rfl, rfl⟩ := hk
            obtain rfl := Option.some.inj h
            obtain ⟨cells, hlen, hrel, hval⟩ := view_load hv ha hrep hb rfl
            have hall : All2 (fun (b : UInt8) v => ∃ x : Int, v = .int .u8 x ∧ b = UInt8.ofNat x.toNat) ((List.range len).map fun j => UInt8.ofNat (g (i + j) 0).toNat) cells := by
              refine All2.of_get (by simp [hlen]) fun j a b h1 h2 => ?_
              have hj : j < len := by
                have := (List.getElem?_eq_some_iff.1 h2).1
                omega
              obtain ⟨u, h3, h4⟩ := hrel j 0 (.n .u8) hj rfl
              simp only [Nat.mul_one, Nat.add_zero] at h3
              rw [h3] at h2
              cases h2
              simp only [List.getElem?_map, List.getElem?_range hj, Option.map_some, Option.some.injEq] at h1
              exact ⟨g (i + j) 0, h4, h1.symm⟩
            rcases hval with ⟨h0, a, rfl⟩ | ⟨L, cap, hL, hle, rfl, hcell⟩
            · subst h0
              refine ⟨.string .empty, ⟨.empty, rfl, rfl⟩, ?_⟩
              cases a with
              | none => simp [convert, run_underlying hs, run_underlying hd, run_underlying he, Conv.bytesToString]
              | some a => simp [convert, run_underlying hs, run_underlying hd, run_underlying he, Conv.bytesToString, loadCells, loadCellsFrom]
            · have hl := run_loadCells_list (P := P) w ⟨L.b, L.base + i * 1, none⟩ cells hcell
              rw [hlen] at hl
              refine ⟨.string ⟨(ByteArray.empty.data.toList ++ ((List.range len).map fun j => UInt8.ofNat (g (i + j) 0).toNat)).toArray⟩, ⟨_, rfl, by simp⟩, ?_⟩
              simp only [convert, Sem.run_bind, run_underlying hs, run_underlying hd, run_underlying he, Result.andThen_ok, Conv.bytesToString]
              have hl' : (loadCells ⟨L.b, L.base + i * 1, none⟩ len).run P w = .ok cells.toArray w := by simpa using hl
              rw [hl']
              simp only [Result.andThen_ok]
              rw [← Array.forIn_toList, bytes_run (P := P) (fun n s w => rfl) cells _ .empty w hall]
              simp
          · cases h
        · cases h
      · cases h
    · cases h
  · cases h

theorem stepR_sound (hΓ : SpecOK P Γ) (hρ : ∀ x, relT φ (ρ x) (e x)) (hf : ∀ f, e (.func f) = .func (.func f) #[] #[]) {o : Oper} {y : Option Nat} {tv : TV} {w : World} (h : (stepR P Γ y ρ H o.op).val = some tv) (hrep : Rep φ H w.heap) :
    Does P φ H w ((execOp e o).run P w) tv H := by
  unfold stepR at h
  split at h
  · rename_i t a hop
    obtain ⟨u, hu, hrun⟩ := run_loadS h hrep (hρ a)
    exact Does.value (by simp [execOp, hop, hrun]) hu hrep
  · rename_i s d x hop
    rw [val_opt] at h
    obtain ⟨u, hu, hrun⟩ := run_bytesStrT h hrep (hρ x)
    exact Does.value (by simp [execOp, hop, hrun]) hu hrep
  · rename_i c hop
    split at h
    · rename_i f hc
      split at h
      · rename_i F hF
        have := does_call (H' := H) hΓ (f := f) (targs := c.args.toList.map ρ) (args := c.args.toList.map e) (tv := tv) (w := w) (by rw [hF]; simp [Spec.app, Tr.val_bind, h, Tr.val]) hrep (map_rel hρ _)
        rw [execOp_call_func hop hc (hf f)]
        have e1 : (List.map e c.args.toList).toArray = c.args.map e := by apply Array.ext'; simp
        rw [e1] at this
        exact this
      · simp [Tr.val] at h
    · rename_i t hc
      have hx := hρ (.tmp t)
      unfold dynR at h
      split at h
      · rename_i f caps hfx
        rw [hfx] at hx
        obtain ⟨cs, hv, hcs⟩ := hx
        have hargs : All2 (relT φ) (c.args.toList.map ρ ++ caps.map fun c => TV.v (AV.s (AS.p c.1 c.2))) (c.args.toList.map e ++ cs) := by
          refine (map_rel hρ _).append ?_
          exact All2.map_l (f := fun (c : Nat × Nat) => TV.v (AV.s (AS.p c.1 c.2))) (fun c u h => h) hcs
        have happ : ((Γ f).app (c.args.toList.map ρ ++ caps.map fun c => TV.v (AV.s (AS.p c.1 c.2))) H).val = some (tv, H) := by
          split at h
          · rename_i F hF
            rw [hF]; simp [Spec.app, Tr.val_bind, h, Tr.val]
          · rename_i F hF
            rw [hF]; simp [Spec.app, Tr.val_bind, h, Tr.val]
          · simp [Tr.val] at h
        have := does_call hΓ (f := f) (w := w) happ hrep hargs
        have e1 : (execOp e o).run P w = (callFunc f (c.args.toList.map e ++ cs).toArray).run P w := by
          have e2 : (c.args.toList.map e ++ cs).toArray = c.args.map e ++ cs.toArray := by apply Array.ext'; simp
          simp [execOp, hop, resolve, hc, hv, Deferred.ofValue, invoke, e2]
        rw [e1]
        exact this
      · simp [Tr.val] at h
    · simp [Tr.val] at h
  · simp [Tr.val] at h

/-! ### operations that turn the memory -/

theorem updRow_spec {ks : List SK} {i : Nat} : ∀ {as : List AS} {g g' : Nat → Nat → Int} {c : Nat}, updRow ks g i c as = some g' →
    (∀ (j : Nat) (a : AS), as[j]? = some a → ∃ sk, ks[c + j]? = some sk ∧ mkS sk (g' i (c + j)) = a) ∧ (∀ i' c', ¬ (i' = i ∧ c ≤ c' ∧ c' < c + as.length) → g' i' c' = g i' c') ∧ (as = [] ∨ c + as.length ≤ ks.length)
  | [], g, g', c, h => by
    simp [updRow] at h
    subst h
    exact ⟨fun j a hj => by simp at hj, fun _ _ _ => rfl, .inl rfl⟩
  | a :: as, g, g', c, h => by
    simp only [updRow] at h
    split at h
    · rename_i sk hsk
      split at h
      · rename_i x hx
        obtain ⟨h1, h2, h3⟩ := updRow_spec h
        refine ⟨?_, ?_, .inr ?_⟩
        · intro j b hj
          cases j with
          | zero =>
            simp at hj
            subst hj
            refine ⟨sk, hsk, ?_⟩
            rw [Nat.add_zero, h2 i c (by omega)]
            simp only [updG, if_true]
            exact asInt_mk hx
          | succ j =>
            simp at hj
            obtain ⟨sk', e1, e2⟩ := h1 j b hj
            rw [show c + (j + 1) = c + 1 + j by omega]
            exact ⟨sk', e1, e2⟩
        · intro i' c' hn
          simp only [List.length_cons] at hn
          rw [h2 i' c' (by omega)]
          unfold updG
          by_cases e1 : c' = c
          · by_cases e2 : i' = i
            · exact (hn ⟨e2, by omega, by omega⟩).elim
            · simp [e1, e2]
          · simp [e1]
        · have hlt : c < ks.length := by
            rcases Nat.lt_or_ge c ks.length with h' | h'
            · exact h'
            · simp [List.getElem?_eq_none h'] at hsk
          simp only [List.length_cons]
          rcases h3 with rfl | h3
          · simp; omega
          · omega
      · cases h
    · cases h

theorem storeVar_run {w : World} {t : TypeId} {n b o : Nat} {v : Value} {cs : Array Value} {ty : TypeId} (hn : sizeT P t = some n) (hv : v.cells.size = n) (hc : ∀ x ∈ v.cells.toList, x.oneCell' = true)
    (hg : w.heap[b]? = some (.cells cs ty (0, 0))) (ho : o + n ≤ cs.size) :
    (storeVar t ⟨b, o, none⟩ v).run P w = .ok () (w.setRow b (cs.toList.take o ++ v.cells.toList ++ cs.toList.drop (o + n)).toArray) := by
  have := run_storeCells_at (P := P) b o ty v.cells.toList 0 cs w hg (by simp [hv]; omega) hc
  simp only [storeVar, Sem.run_bind, run_size hn, Result.andThen_ok, hv]
  simp only [ne_eq, not_true_eq_false, if_false, this]
  simp [hv]

theorem all_oneCell {φ : Phi} : ∀ {l : List AS} {vs : List Value}, All2 (relS φ) l vs → ∀ x ∈ vs, x.oneCell' = true
  | [], [], _, x, hx => by simp at hx
  | _ :: _, _ :: _, h, x, hx => by
    rcases List.mem_cons.1 hx with rfl | hx
    · exact relS.oneCell h.1
    · exact all_oneCell h.2 x hx
  | [], _ :: _, h, _, _ => h.elim
  | _ :: _, [], h, _, _ => h.elim

theorem rep_setW {w w' : World} {id : Nat} {B B' : Blk} {L : Loc} (o1 : w'.os = w.os) (o2 : w'.output = w.output) (o3 : w'.tape = w.tape) (h : Rep φ H w.heap) (hid : H[id]? = some (some B)) (hL : φ[id]? = some L) (hm : B.mut = true) (hf : ∀ b, B'.foot φ L b → B.foot φ L b)
    (hsz : w.heap.size ≤ w'.heap.size) (ho : ∀ b, ¬ B.foot φ L b → b < w.heap.size → w'.heap[b]? = w.heap[b]?) (hB : RepB φ L w'.heap B') :
    Rep φ (H.set id (some B')) w'.heap ∧ Ext φ H w φ (H.set id (some B')) w' :=
  let ⟨a, b⟩ := rep_set h hid hL hm hf hsz ho hB
  ⟨a, b, o1, o2, o3⟩

theorem run_storeT {t : TypeId} {a x : TV} {H' : AH} {va vx : Value} {w : World} (h : (storeT P H t a x).val = some H') (hrep : Rep φ H w.heap) (ha : relT φ a va) (hx : relT φ x vx) :
    ∃ w', (Instr.storeAt t va vx).run P w = .ok () w' ∧ Rep φ H' w'.heap ∧ Ext φ H w φ H' w' := by
  unfold storeT at h
  split at h
  · rename_i v
    split at h
    · rename_i n hn
      split at h
      · rename_i hlen
        have hcells := relA.cells hx
        have hvlen : vx.cells.size = n := by have := hcells.length_eq; simp at this; omega
        split at h
        · rename_i id o
          split at h
          · rename_i l hb
            split at h
            · rename_i hle
              obtain ⟨hle, hn0⟩ := hle
              rw [forceL_eq] at h
              obtain rfl := val_ok h
              obtain ⟨L, hL, h0, hsz, hreal⟩ := hrep.blk _ _ (blk_some hb)
              obtain ⟨L', hL', rfl⟩ := ha
              rw [hL] at hL'; cases hL'
              rcases hreal with hz | ⟨cs, ty, hcs, hrel⟩
              · omega
              have hl2 := hrel.length_eq
              simp at hl2
              have hrun := storeVar_run (P := P) (w := w) hn hvlen (all_oneCell hcells) hcs (show o + n ≤ cs.size by omega)
              refine ⟨_, by simp only [Instr.storeAt, Instr.sureAddr, Sem.run_bind, Sem.run_pure, Result.andThen_ok, h0, Nat.zero_add]; exact hrun, ?_⟩
              refine rep_setW (by simp) (by simp) (by simp) hrep (blk_some hb) hL rfl (fun _ h => h) (by simp) (fun b hne _ => setRow_other w L.b b _ (fun e => hne ⟨by omega, e.symm⟩)) ⟨h0, ?_, .inr ⟨_, ty, setRow_heap w L.b cs _ ty (0, 0) hcs, ?_⟩⟩
              · have : v.cells.length = n := hlen
                simp [setAll]; omega
              · have := setAll_rel hrel hcells o
                simp only [Array.length_toList, hvlen] at this
                exact this
            · simp [Tr.val] at h
          · simp [Tr.val] at h
        · rename_i id wd i c
          split at h
          · rename_i ks m g hb
            split at h
            · rename_i hwd
              obtain ⟨hwd, hn0⟩ := hwd
              subst hwd
              split at h
              · rename_i g' hg'
                obtain rfl := val_ok h
                obtain ⟨L, hL, hLn, hmn, hreal⟩ := hrep.blk _ _ (blk_some hb)
                obtain ⟨L', hL', hin', rfl⟩ := ha
                rw [hL] at hL'; cases hL'
                have hi : i < m := by omega
                obtain ⟨u1, u2, u3⟩ := updRow_spec hg'
                have hlen' : v.cells.length = n := hlen
                have hbound : i * ks.length + ks.length ≤ m * ks.length := by
                  have : (i + 1) * ks.length ≤ m * ks.length := Nat.mul_le_mul_right _ hi
                  rw [Nat.add_mul] at this; omega
                have u3 : c + v.cells.length ≤ ks.length := by
                  rcases u3 with u3 | u3
                  · rw [u3] at hlen'; simp at hlen'; omega
                  · exact u3
                rcases hreal with hz | ⟨cs, ty, fr, hcs, hsz, hown, hrows⟩
                · omega
                obtain ⟨h0, rfl⟩ := hown rfl
                have hin : L.base + (i * ks.length + c) + n ≤ cs.size := by omega
                have hrun := storeVar_run (P := P) (w := w) hn hvlen (all_oneCell hcells) hcs hin
                refine ⟨_, by simp only [Instr.storeAt, Instr.sureAddr, Sem.run_bind, Sem.run_pure, Result.andThen_ok]; exact hrun, ?_⟩
                have hnew := setRow_heap w L.b cs (cs.toList.take (L.base + (i * ks.length + c)) ++ vx.cells.toList ++ cs.toList.drop (L.base + (i * ks.length + c) + n)).toArray ty (0, 0) hcs
                refine rep_setW (by simp) (by simp) (by simp) hrep (blk_some hb) hL rfl (fun _ h => h) (by simp) (fun b hne _ => setRow_other w L.b b _ (fun e => hne ⟨by omega, e.symm⟩)) ⟨hLn, hmn, .inr ⟨_, ty, (0, 0), hnew, ?_, fun _ => ⟨h0, rfl⟩, ?_⟩⟩
                · simp [hvlen]; omega
                · intro i' c' sk hi' hsk
                  have hc'lt : c' < ks.length := by
                    rcases Nat.lt_or_ge c' ks.length with h' | h'
                    · exact h'
                    · simp [List.getElem?_eq_none h'] at hsk
                  have hget : ∀ (k : Nat), (cs.toList.take (L.base + (i * ks.length + c)) ++ vx.cells.toList ++ cs.toList.drop (L.base + (i * ks.length + c) + n)).toArray[k]? =
                      if L.base + (i * ks.length + c) ≤ k ∧ k < L.base + (i * ks.length + c) + n then vx.cells.toList[k - (L.base + (i * ks.length + c))]? else cs[k]? := by
                    intro k
                    simp only [List.getElem?_toArray, List.getElem?_append, List.length_append, List.length_take, Array.length_toList, hvlen, List.getElem?_take, List.getElem?_drop]
                    have em : min (L.base + (i * ks.length + c)) cs.size = L.base + (i * ks.length + c) := by omega
                    rw [em]
                    by_cases k1 : k < L.base + (i * ks.length + c)
                    · simp [k1, show k < L.base + (i * ks.length + c) + n by omega, show ¬ (L.base + (i * ks.length + c) ≤ k) by omega]
                    · by_cases k2 : k < L.base + (i * ks.length + c) + n
                      · simp [k1, k2, show L.base + (i * ks.length + c) ≤ k by omega]
                      · simp only [k2, if_false, and_false]
                        rw [show L.base + (i * ks.length + c) + n + (k - (L.base + (i * ks.length + c) + n)) = k by omega]
                        simp
                  rw [hget]
                  by_cases hcase : i' = i ∧ c ≤ c' ∧ c' < c + v.cells.length
                  · obtain ⟨rfl, hc1, hc2⟩ := hcase
                    have hj : c' - c < v.cells.length := by omega
                    obtain ⟨sk', e1, e2⟩ := u1 (c' - c) _ (List.getElem?_eq_getElem hj)
                    rw [show c + (c' - c) = c' by omega] at e1 e2
                    rw [hsk] at e1; cases e1
                    obtain ⟨u, hu, hr⟩ := hcells.get (List.getElem?_eq_getElem hj)
                    rw [if_pos (by omega), show L.base + (i' * ks.length + c') - (L.base + (i' * ks.length + c)) = c' - c by omega]
                    exact ⟨u, hu, by rw [e2]; exact hr⟩
                  · rw [if_neg, u2 i' c' hcase]
                    · exact hrows i' c' sk hi' hsk
                    · rintro ⟨k1, k2⟩
                      apply hcase
                      have e1 : i' = i := by
                        rcases Nat.lt_trichotomy i' i with hh | hh | hh
                        · have : (i' + 1) * ks.length ≤ i * ks.length := Nat.mul_le_mul_right _ hh
                          rw [Nat.add_mul] at this; omega
                        · exact hh
                        · have : (i + 1) * ks.length ≤ i' * ks.length := Nat.mul_le_mul_right _ hh
                          rw [Nat.add_mul] at this; omega
                      subst e1
                      exact ⟨rfl, by omega, by omega⟩
              · simp [Tr.val] at h
            · simp [Tr.val] at h
          · simp [Tr.val] at h
        · simp [Tr.val] at h
      · simp [Tr.val] at h
    · simp [Tr.val] at h
  · simp [Tr.val] at h

theorem updRowX_eq {ks : List SK} {i n len j : Nat} (hj : j < len) : ∀ {as : List AS} {g g' : Nat → Nat → Int} {o : Nat}, updRowX ks g i n len j o as = some g' → updRow ks g i (o + j * n) as = some g'
  | [], _, _, _, h => h
  | a :: as, g, g', o, h => by
    simp only [updRowX] at h
    split at h
    · rename_i sk hsk
      split at h
      · rename_i x hx
        have e := updRowX_eq hj h
        rw [show o + 1 + j * n = o + j * n + 1 by omega] at e
        simp only [updRow, kindX_get hsk hj, hx, e]
      · cases h
    · cases h

theorem get_lt' {α : Type} {l : List α} {i : Nat} {a : α} (h : l[i]? = some a) : i < l.length := (List.getElem?_eq_some_iff.1 h).1

theorem run_storeO {t : TypeId} {a x : TV} {H' : AH} {va vx : Value} {w : World} (h : (storeO P H t a x).val = some H') (hrep : Rep φ H w.heap) (ha : relT φ a va) (hx : relT φ x vx) :
    ∃ w', (Instr.storeAt t va vx).run P w = .ok () w' ∧ Rep φ H' w'.heap ∧ Ext φ H w φ H' w' := by
  unfold storeO at h
  split at h
  · rename_i id wd i o n len j c
    unfold storeX at h
    split at h
    · rename_i v
      split at h
      · rename_i m hm
        split at h
        · rename_i hlen
          obtain ⟨hlen, hm0⟩ := hlen
          split at h
          · rename_i l hb
            split at h
            · rename_i hw
              obtain ⟨rfl, rfl, hn⟩ := hw
              split at h
              · rename_i l' hl'
                rw [forceL_eq] at h
                obtain rfl := val_ok h
                obtain ⟨hj, ha'⟩ := px_p ha
                refine run_storeT (a := .v (.s (.p id (o + j * n + c)))) (x := .v v) ?_ hrep ha' hx
                have hne : v.cells ≠ [] := by intro e; rw [e] at hlen; simp at hlen; omega
                obtain ⟨rfl, e2⟩ := setXs_eq hn hj hl' hne
                simp only [storeT, hm, hlen, hb, if_true]
                rw [if_pos ⟨by omega, hm0⟩, forceL_eq, show o + c + j * n = o + j * n + c by omega]
                rfl
              · simp [Tr.val] at h
            · simp [Tr.val] at h
          · rename_i ks r g hb
            split at h
            · rename_i hw
              obtain ⟨rfl, hw0⟩ := hw
              split at h
              · rename_i g' hg'
                obtain rfl := val_ok h
                obtain ⟨hj, ha'⟩ := px_pr hw0 ha
                refine run_storeT (a := .v (.s (.pr id ks.length i (o + j * n + c)))) (x := .v v) ?_ hrep ha' hx
                have e := updRowX_eq hj hg'
                rw [show o + c + j * n = o + j * n + c by omega] at e
                simp only [storeT, hm, hlen, hb, if_true, e]
                rw [if_pos ⟨trivial, hm0⟩]
                rfl
              · simp [Tr.val] at h
            · simp [Tr.val] at h
          · simp [Tr.val] at h
        · simp [Tr.val] at h
      · simp [Tr.val] at h
    · simp [Tr.val] at h
  · exact run_storeT h hrep ha hx

/-! ### rows with members -/

theorem setRange_get (cs : Array Value) (vs : List Value) (o : Nat) (ho : o + vs.length ≤ cs.size) (k : Nat) :
    (cs.toList.take o ++ vs ++ cs.toList.drop (o + vs.length)).toArray[k]? = if o ≤ k ∧ k < o + vs.length then vs[k - o]? else cs[k]? := by
  simp only [List.getElem?_toArray, List.getElem?_append, List.length_append, List.length_take, Array.length_toList, List.getElem?_take, List.getElem?_drop]
  have em : min o cs.size = o := by omega
  rw [em]
  by_cases k1 : k < o
  · simp [k1, show k < o + vs.length by omega, show ¬ (o ≤ k) by omega]
  · by_cases k2 : k < o + vs.length
    · simp [k1, k2, show o ≤ k by omega]
    · simp only [k2, if_false, and_false]
      rw [show o + vs.length + (k - (o + vs.length)) = k by omega]
      simp

theorem setRange_size (cs : Array Value) (vs : List Value) (o : Nat) (ho : o + vs.length ≤ cs.size) : (cs.toList.take o ++ vs ++ cs.toList.drop (o + vs.length)).toArray.size = cs.size := by
  simp; omega

theorem range_row {i i' c c' m k : Nat} (hc : c + m ≤ k) (hc' : c' < k) (h1 : i * k + c ≤ i' * k + c') (h2 : i' * k + c' < i * k + c + m) : i' = i ∧ c ≤ c' ∧ c' < c + m := by
  have e : i' = i := by
    rcases Nat.lt_trichotomy i' i with hh | hh | hh
    · have : (i' + 1) * k ≤ i * k := Nat.mul_le_mul_right _ hh
      rw [Nat.add_mul] at this; omega
    · exact hh
    · have : (i + 1) * k ≤ i' * k := Nat.mul_le_mul_right _ hh
      rw [Nat.add_mul] at this; omega
  subst e
  exact ⟨rfl, by omega, by omega⟩

theorem missK_one {c0 : Nat} {m c : Nat} (h : missK c0 1 m c = true) : ¬ (c ≤ c0 ∧ c0 < c + m) := by
  rintro ⟨h1, h2⟩
  have := missK_get h (c0 - c) (by omega)
  omega

theorem run_storeNum {id i c : Nat} {ks : List SK} {c0 : Nat} {ms : List SK} {n : Nat} {g g' h : Nat → Nat → Int} {F : Nat} {ow : Ow} {t : TypeId} {L : Loc} {w : World} {as : List AS} {vx : Value} {sz : Nat}
    (hrep : Rep φ H w.heap) (hb : blk H id = some (.nrows ks c0 ms n g h F ow true)) (hL : φ[id]? = some L) (hin : i < L.n) (hn : sizeT P t = some sz) (hsz0 : sz ≠ 0) (hvlen : vx.cells.size = sz) (hcells : All2 (relS φ) as vx.cells.toList)
    (hmiss : ¬ (c ≤ c0 ∧ c0 < c + sz)) (hg : updRow ks g i c as = some g') :
    ∃ w', (Instr.storeAt t (.pointer (some ⟨L.b, L.base + (i * ks.length + c), none⟩)) vx).run P w = .ok () w' ∧ Rep φ (H.set id (some (.nrows ks c0 ms n g' h F ow true))) w'.heap ∧ Ext φ H w φ (H.set id (some (.nrows ks c0 ms n g' h F ow true))) w' := by
  obtain ⟨LF, cs, ty, fr, hF, hcs, hc0, hLn, hmn, hsz, hown, hpos, hbnd, hk, hm⟩ := nrow_at hrep hb hL hin
  obtain ⟨h0, rfl⟩ := hown rfl
  obtain ⟨L', hL', _, _, _, LF', hF', hreal, hmem, hap⟩ := hrep.blk _ _ (blk_some hb)
  rw [hL] at hL'; cases hL'
  rw [hF] at hF'; cases hF'
  obtain ⟨u1, u2, u3⟩ := updRow_spec hg
  have hal : as.length = sz := by have := hcells.length_eq; simp at this; omega
  have u3 : c + sz ≤ ks.length := by
    rcases u3 with u3 | u3
    · rw [u3] at hal; simp at hal; omega
    · omega
  have hvl : vx.cells.toList.length = sz := by simpa using hvlen
  have hin' : L.base + (i * ks.length + c) + sz ≤ cs.size := by omega
  have hrun := storeVar_run (P := P) (w := w) hn hvlen (all_oneCell hcells) hcs hin'
  refine ⟨_, by simp only [Instr.storeAt, Instr.sureAddr, Sem.run_bind, Sem.run_pure, Result.andThen_ok]; exact hrun, ?_⟩
  have hnew := setRow_heap w L.b cs (cs.toList.take (L.base + (i * ks.length + c)) ++ vx.cells.toList ++ cs.toList.drop (L.base + (i * ks.length + c) + sz)).toArray ty (0, 0) hcs
  have hsize := setRange_size cs vx.cells.toList (L.base + (i * ks.length + c)) (by omega)
  have hget := setRange_get cs vx.cells.toList (L.base + (i * ks.length + c)) (by omega)
  rw [hvl] at hsize hget
  have hg0 : ∀ j, g' j c0 = g j c0 := fun j => u2 j c0 (by rw [hal]; exact fun hh => hmiss hh.2)
  refine rep_setW (by simp) (by simp) (by simp) hrep (blk_some hb) hL rfl (fun _ h => h) (by simp) (fun b hne _ => setRow_other w L.b b _ (fun e => hne (.inl ⟨by omega, e.symm⟩)))
    ⟨hLn, hmn, hc0, LF, hF, .inr ⟨_, ty, (0, 0), hnew, by rw [hsize]; exact hsz, fun _ => ⟨h0, rfl⟩, ?_⟩, ?_, hap⟩
  · intro i' c' sk hi' hsk
    have hc'lt : c' < ks.length := get_lt' hsk
    rw [hget]
    by_cases hcase : L.base + (i * ks.length + c) ≤ L.base + (i' * ks.length + c') ∧ L.base + (i' * ks.length + c') < L.base + (i * ks.length + c) + sz
    · obtain ⟨rfl, hc1, hc2⟩ := range_row (i := i) (i' := i') (m := sz) u3 hc'lt (by omega) (by omega)
      have hj : c' - c < as.length := by omega
      obtain ⟨sk', e1, e2⟩ := u1 (c' - c) _ (List.getElem?_eq_getElem hj)
      rw [show c + (c' - c) = c' by omega] at e1 e2
      rw [hsk] at e1; cases e1
      obtain ⟨u, hu, hr⟩ := hcells.get (List.getElem?_eq_getElem hj)
      rw [if_pos hcase, show L.base + (i' * ks.length + c') - (L.base + (i' * ks.length + c)) = c' - c by omega]
      exact ⟨u, hu, fun _ => by rw [e2]; exact hr, fun e => by subst e; exact (hmiss ⟨hc1, hc2⟩).elim⟩
    · rw [if_neg hcase]
      rcases hreal with hz | ⟨cs', t', fr', k1, _, _, k4⟩
      · omega
      rw [hcs] at k1; cases k1
      obtain ⟨v, e1, e2, e3⟩ := k4 i' c' sk hi' hsk
      have : g' i' c' = g i' c' := u2 i' c' (by rw [hal]; rintro ⟨rfl, q1, q2⟩; exact hcase ⟨by omega, by omega⟩)
      exact ⟨v, e1, fun hne => by rw [this]; exact e2 hne, e3⟩
  · intro j hj ho
    rw [hg0 j]
    refine ⟨(hmem j hj ho).1, (hmem j hj ho).2.of_heap fun b hf => setRow_other w L.b b _ (fun e => ?_)⟩
    subst e
    exact (hap rfl j hj ho).1 hpos hf

theorem run_storeMem {id F i j k len0 cap0 b ob : Nat} {ks : List SK} {c0 : Nat} {ms : List SK} {n : Nat} {g h : Nat → Nat → Int} {ow : Ow} {t : TypeId} {L LF : Loc} {w : World} {x : AS} {vx : Value} {sk : SK} {z : Int}
    (hrep : Rep φ H w.heap) (hb : blk H id = some (.nrows ks c0 ms n g h F ow true)) (ho : isAll ow = true) (hL : φ[id]? = some L) (hF : φ[F]? = some LF) (hin : i < L.n) (hm : LF.x.mem i = .slice (some ⟨b, ob, none⟩) len0 cap0) (hj : j < len0)
    (hn : sizeT P t = some 1) (hvx : relS φ x vx) (hk : ms[k]? = some sk) (hz : asInt sk x = some z) :
    ∃ w', (Instr.storeAt t (.pointer (some ⟨b, ob + (j * ms.length + k), none⟩)) vx).run P w = .ok () w' ∧ Rep φ (H.set id (some (.nrows ks c0 ms n g (updG h i (j * ms.length + k) z) F ow true))) w'.heap ∧
      Ext φ H w φ (H.set id (some (.nrows ks c0 ms n g (updG h i (j * ms.length + k) z) F ow true))) w' := by
  obtain ⟨cs, ty, fr, hcs, hl0, hsz, hle, hcap, hown, hkk⟩ := mem_at hrep hb rfl ho hL hF hin hm hj
  obtain ⟨h0, rfl⟩ := hown rfl
  obtain ⟨L', hL', hLn, hmn, hc0, LF', hF', hreal, hmem, hap⟩ := hrep.blk _ _ (blk_some hb)
  rw [hL] at hL'; cases hL'
  rw [hF] at hF'; cases hF'
  have hkl := get_lt' hk
  have hfoot : footV (LF.x.mem i) b := ⟨_, _, _, hm, hcap, rfl⟩
  have hcells : vx.cells = #[vx] := Value.cells_of_oneCell (relS.oneCell hvx)
  have hjm : j * ms.length + k < cap0 * ms.length := by
    have : (j + 1) * ms.length ≤ cap0 * ms.length := Nat.mul_le_mul_right _ (by omega)
    rw [Nat.add_mul] at this; omega
  have hrun := storeVar_run (P := P) (w := w) (v := vx) hn (by rw [hcells]; rfl) (by rw [hcells]; intro y hy; simp at hy; subst hy; exact relS.oneCell hvx) hcs (show ob + (j * ms.length + k) + 1 ≤ cs.size by omega)
  rw [hcells] at hrun
  refine ⟨_, by simp only [Instr.storeAt, Instr.sureAddr, Sem.run_bind, Sem.run_pure, Result.andThen_ok]; exact hrun, ?_⟩
  have hnew := setRow_heap w b cs (cs.toList.take (ob + (j * ms.length + k)) ++ [vx] ++ cs.toList.drop (ob + (j * ms.length + k) + 1)).toArray ty (0, 0) hcs
  have hsize := setRange_size cs [vx] (ob + (j * ms.length + k)) (by simp; omega)
  have hget := setRange_get cs [vx] (ob + (j * ms.length + k)) (by simp; omega)
  simp only [List.length_singleton] at hsize hget
  have hi : i < n := by omega
  have hLb : 0 < L.sz → L.b ≠ b := fun hp e => (hap rfl i hi (isAll_has ho i)).1 hp (by rw [e]; exact hfoot)
  refine rep_setW (by simp) (by simp) (by simp) hrep (blk_some hb) hL rfl (fun _ h => h) (by simp) (fun b' hne _ => setRow_other w b b' _ (fun e => hne (.inr ⟨LF, i, hF, hi, isAll_has ho i, by rw [e]; exact hfoot⟩)))
    ⟨hLn, hmn, hc0, LF, hF, ?_, ?_, hap⟩
  · rcases hreal with hzz | ⟨cs', t', fr', k1, k2, k3, k4⟩
    · exact .inl hzz
    · rcases Nat.eq_zero_or_pos L.sz with hzz | hp
      · exact .inl hzz
      · refine .inr ⟨cs', t', fr', ?_, k2, k3, k4⟩
        rw [setRow_other w b L.b _ (hLb hp)]; exact k1
  · intro i' hi' ho'
    by_cases e : i' = i
    · subst e
      refine ⟨(hmem i' hi' ho').1, ?_⟩
      rw [hm, ← hl0]
      refine .inr ⟨b, ob, cap0, _, ty, (0, 0), rfl, hcap, hle, hnew, by rw [hsize]; exact hsz, fun _ => ⟨h0, rfl⟩, fun j' c' sk' hj' hsk' => ?_⟩
      have hc'l := get_lt' hsk'
      rw [hget]
      unfold updG
      by_cases hcase : ob + (j * ms.length + k) ≤ ob + (j' * ms.length + c') ∧ ob + (j' * ms.length + c') < ob + (j * ms.length + k) + 1
      · obtain ⟨rfl, q1, q2⟩ := range_row (i := j) (i' := j') (c := k) (m := 1) (k := ms.length) (by omega) hc'l (by omega) (by omega)
        have : c' = k := by omega
        subst this
        rw [if_pos hcase, Nat.sub_self, if_pos rfl, if_pos rfl]
        rw [hk] at hsk'; cases hsk'
        exact ⟨vx, rfl, by rw [asInt_mk hz]; exact hvx⟩
      · have hq : ¬ (j' * ms.length + c' = j * ms.length + k) := by omega
        rw [if_neg hcase, if_neg hq]
        exact hkk j' c' sk' hj' hsk'
    · have hupd : updG h i (j * ms.length + k) z i' = h i' := by
        funext q
        unfold updG
        by_cases hq : q = j * ms.length + k
        · rw [if_pos hq, if_neg e]
        · rw [if_neg hq]
      rw [hupd]
      refine ⟨(hmem i' hi' ho').1, (hmem i' hi' ho').2.of_heap fun b' hf => setRow_other w b b' _ (fun e' => ?_)⟩
      subst e'
      exact (hap rfl i hi (isAll_has ho i)).2 i' hi' ho' (Ne.symm e) _ hfoot hf

theorem owPut_has {ow : Ow} {i : Nat} (h : (owPut ow i).1 = true) : (owPut ow i).2.has i ∧ ∀ j, (owPut ow i).2.has j → j = i ∨ ow.has j := by
  cases ow with
  | all => exact ⟨trivial, fun j _ => .inr trivial⟩
  | but k =>
    have := Nat.eq_of_beq_eq_true h
    subst this
    refine ⟨trivial, fun j _ => ?_⟩
    by_cases e : j = i
    · exact .inl e
    · exact .inr e
  | below k =>
    have := Nat.eq_of_beq_eq_true h
    subst this
    refine ⟨Nat.lt_succ_self i, fun j hj => ?_⟩
    have hj : j < i + 1 := hj
    rcases Nat.lt_or_ge j i with e | e
    · exact .inr e
    · exact .inl (by omega)

theorem set2_get {N id : Nat} {B : Option Blk} {j : Nat} {C : Blk} (h : ((H.set N none).set id B ++ [none])[j]? = some (some C)) : (j = id ∧ B = some C) ∨ (j ≠ id ∧ j ≠ N ∧ H[j]? = some (some C)) := by
  have h1 : ((H.set N none).set id B)[j]? = some (some C) := by
    rcases Nat.lt_or_ge j ((H.set N none).set id B).length with hlt | hge
    · rw [List.getElem?_append_left hlt] at h; exact h
    · rw [List.getElem?_append_right hge] at h
      rcases Nat.eq_zero_or_pos (j - ((H.set N none).set id B).length) with e | e
      · rw [e] at h; simp at h
      · rw [List.getElem?_eq_none (by simp at e ⊢; omega)] at h; cases h
  rcases get_set h1 with hh | ⟨hne, h2⟩
  · exact .inl hh
  · rcases get_set h2 with ⟨_, e⟩ | ⟨hne', h3⟩
    · cases e
    · exact .inr ⟨hne, hne', h3⟩

theorem run_putN {id N i : Nat} {ks : List SK} {c0 : Nat} {ms : List SK} {n : Nat} {g h h' : Nat → Nat → Int} {F : Nat} {ow : Ow} {t : TypeId} {L : Loc} {w : World} {vx : Value} {m : Nat} {hm0 : Nat → Int}
    (hrep : Rep φ H w.heap) (hb : blk H id = some (.nrows ks c0 ms n g h F ow true)) (hL : φ[id]? = some L) (hin : i < L.n) (hn : sizeT P t = some 1) (hc : (owPut ow i).1 = true) (hone : vx.oneCell' = true) (hNid : N ≠ id)
    (hN : MemRep φ w.heap ms true m hm0 vx) (hft : ∀ b, footV vx b → ∃ B LN, H[N]? = some (some B) ∧ φ[N]? = some LN ∧ B.mut = true ∧ B.foot φ LN b) (hh1 : h' i = hm0) (hh2 : ∀ j, j ≠ i → h' j = h j) :
    ∃ w' φ', (Instr.storeAt t (.pointer (some ⟨L.b, L.base + (i * ks.length + c0), none⟩)) vx).run P w = .ok () w' ∧ Rep φ' ((H.set N none).set id (some (.nrows ks c0 ms n (updG g i c0 (m : Nat)) h' H.length (owPut ow i).2 true)) ++ [none]) w'.heap ∧
      Ext φ H w φ' ((H.set N none).set id (some (.nrows ks c0 ms n (updG g i c0 (m : Nat)) h' H.length (owPut ow i).2 true)) ++ [none]) w' := by
  obtain ⟨LF, cs, ty, fr, hF, hcs, hc0, hLn, hmn, hsz, hown, hpos, hbnd, hk, _⟩ := nrow_at hrep hb hL hin
  obtain ⟨h0, rfl⟩ := hown rfl
  obtain ⟨L', hL', _, _, _, LF', hF', hreal, hmem, hap⟩ := hrep.blk _ _ (blk_some hb)
  rw [hL] at hL'; cases hL'
  rw [hF] at hF'; cases hF'
  have hcells : vx.cells = #[vx] := Value.cells_of_oneCell hone
  have hrun := storeVar_run (P := P) (w := w) (v := vx) hn (by rw [hcells]; rfl) (by rw [hcells]; intro y hy; simp at hy; subst hy; exact hone) hcs (show L.base + (i * ks.length + c0) + 1 ≤ cs.size by omega)
  rw [hcells] at hrun
  obtain ⟨o1, o2⟩ := owPut_has hc
  generalize (owPut ow i).2 = ow' at o1 o2 ⊢
  have hnew := setRow_heap w L.b cs (cs.toList.take (L.base + (i * ks.length + c0)) ++ [vx] ++ cs.toList.drop (L.base + (i * ks.length + c0) + 1)).toArray ty (0, 0) hcs
  have hsize := setRange_size cs [vx] (L.base + (i * ks.length + c0)) (by simp; omega)
  have hget := setRange_get cs [vx] (L.base + (i * ks.length + c0)) (by simp; omega)
  simp only [List.length_singleton] at hsize hget
  let LN : Loc := ⟨0, 0, 0, 0, ⟨.tuple #[], fun j => if j = i then vx else LF.x.mem j⟩⟩
  have memi : LN.x.mem i = vx := if_pos rfl
  have memj : ∀ j, j ≠ i → LN.x.mem j = LF.x.mem j := fun j hj => if_neg hj
  have hlast : (φ ++ [LN])[H.length]? = some LN := by rw [← hrep.len]; simp
  have hidfoot : ∀ {b}, (0 < L.sz ∧ L.b = b) ∨ (∃ j, j < n ∧ ow.has j ∧ footV (LF.x.mem j) b) → Blk.foot φ (.nrows ks c0 ms n g h F ow true) L b := by
    rintro b (hh | ⟨j, q1, q2, q3⟩)
    · exact .inl hh
    · exact .inr ⟨LF, j, hF, q1, q2, q3⟩
  have crossed : ∀ {b}, footV vx b → Blk.foot φ (.nrows ks c0 ms n g h F ow true) L b → False := by
    intro b q1 q2
    obtain ⟨B, LN', e1, e2, e3, e4⟩ := hft b q1
    exact hrep.apart N id B _ LN' L b e1 (blk_some hb) e2 hL hNid e3 e4 q2
  have hmemx : ¬ footV vx L.b := fun hh => crossed hh (.inl ⟨hpos, rfl⟩)
  have hLb : ∀ j, j < n → ow'.has j → ¬ footV (LN.x.mem j) L.b := by
    intro j hj ho hf
    by_cases e : j = i
    · subst e; rw [memi] at hf; exact hmemx hf
    · rw [memj j e] at hf
      rcases o2 j ho with e' | e'
      · exact e e'
      · exact (hap rfl j hj e').1 hpos hf
  let heap' := (w.setRow L.b (cs.toList.take (L.base + (i * ks.length + c0)) ++ [vx] ++ cs.toList.drop (L.base + (i * ks.length + c0) + 1)).toArray)
  have hB : RepB (φ ++ [LN]) L heap'.heap (.nrows ks c0 ms n (updG g i c0 (m : Nat)) h' H.length ow' true) := by
    refine ⟨hLn, hmn, hc0, LN, hlast, .inr ⟨_, ty, (0, 0), hnew, by rw [hsize]; exact hsz, fun _ => ⟨h0, rfl⟩, ?_⟩, ?_, fun _ j hj ho => ⟨fun _ => hLb j hj ho, ?_⟩⟩
    · intro i' c' sk hi' hsk
      have hc'lt : c' < ks.length := get_lt' hsk
      rw [hget]
      by_cases hcase : L.base + (i * ks.length + c0) ≤ L.base + (i' * ks.length + c') ∧ L.base + (i' * ks.length + c') < L.base + (i * ks.length + c0) + 1
      · obtain ⟨rfl, hc1, hc2⟩ := range_row (i := i) (i' := i') (c := c0) (m := 1) (k := ks.length) (by omega) hc'lt (by omega) (by omega)
        have : c' = c0 := by omega
        subst this
        rw [if_pos hcase, Nat.sub_self]
        exact ⟨vx, rfl, fun hne => (hne rfl).elim, fun _ _ => memi.symm⟩
      · rw [if_neg hcase]
        rcases hreal with hz | ⟨cs', t', fr', k1, _, _, k4⟩
        · omega
        rw [hcs] at k1; cases k1
        obtain ⟨v, e1, e2, e3⟩ := k4 i' c' sk hi' hsk
        refine ⟨v, e1, fun hne => ?_, fun e ho => ?_⟩
        · have : updG g i c0 (m : Nat) i' c' = g i' c' := by unfold updG; rw [if_neg hne]
          rw [this]
          exact relS.mono _ (e2 hne)
        · subst e
          have hne : i' ≠ i := fun e => hcase ⟨by subst e; omega, by subst e; omega⟩
          rw [memj i' hne]
          rcases o2 i' ho with e' | e'
          · exact (hne e').elim
          · exact e3 rfl e'
    · intro j hj ho
      by_cases e : j = i
      · subst e
        have : updG g j c0 (m : Nat) j c0 = (m : Nat) := by unfold updG; rw [if_pos rfl, if_pos rfl]
        rw [this, memi, Int.toNat_natCast, hh1]
        exact ⟨by omega, (hN.of_heap fun b hf => setRow_other w L.b b _ (fun e => hmemx (by rw [← e]; exact hf))).mono _⟩
      · have : updG g i c0 (m : Nat) j c0 = g j c0 := by unfold updG; rw [if_pos rfl, if_neg e]
        rw [this, memj j e, hh2 j e]
        rcases o2 j ho with e' | e'
        · exact (e e').elim
        · exact ⟨(hmem j hj e').1, ((hmem j hj e').2.of_heap fun b hf => setRow_other w L.b b _ (fun e2 => (hap rfl j hj e').1 hpos (by rw [← e2]; exact hf))).mono _⟩
    · intro j' hj' ho' hne b hf hf'
      by_cases e : j = i
      · subst e
        rw [memi] at hf
        rw [memj j' (Ne.symm hne)] at hf'
        rcases o2 j' ho' with e' | e'
        · exact hne e'.symm
        · exact crossed hf (hidfoot (.inr ⟨j', hj', e', hf'⟩))
      · rw [memj j e] at hf
        rcases o2 j ho with e1 | e1
        · exact e e1
        · by_cases e2 : j' = i
          · subst e2
            rw [memi] at hf'
            exact crossed hf' (hidfoot (.inr ⟨j, hj, e1, hf⟩))
          · rw [memj j' e2] at hf'
            rcases o2 j' ho' with e3 | e3
            · exact e2 e3
            · exact (hap rfl j hj e1).2 j' hj' e3 hne b hf hf'
  refine ⟨heap', φ ++ [LN], by simp only [Instr.storeAt, Instr.sureAddr, Sem.run_bind, Sem.run_pure, Result.andThen_ok]; exact hrun, ?_⟩
  have step := rep_step (ψ := [LN]) (H' := (H.set N none).set id (some (.nrows ks c0 ms n (updG g i c0 (m : Nat)) h' H.length ow' true)) ++ [none]) (heap' := heap'.heap)
    (fun b => Blk.foot φ (.nrows ks c0 ms n g h F ow true) L b ∨ footV vx b) (fun j => j = id) hrep (by simp [hrep.len]) (by simp [heap'])
    (fun b _ hw => setRow_other w L.b b _ (fun e => hw (.inl (.inl ⟨hpos, e.symm⟩))))
    (fun b _ hw => by
      rcases hw with hw | hw
      · exact ⟨id, _, L, blk_some hb, rfl, hL, hw⟩
      · obtain ⟨B, LN', e1, e2, e3, e4⟩ := hft b hw
        exact ⟨N, B, LN', e1, e3, e2, e4⟩)
    (fun j C hj hne => by
      rcases set2_get hj with ⟨e, _⟩ | ⟨e1, e2, e3⟩
      · exact (hne e).elim
      · refine ⟨e3, fun L2 b hL2 z hw => ?_⟩
        rcases hw with hw | hw
        · exact hrep.apart id j _ C L L2 b (blk_some hb) e3 hL hL2 (Ne.symm e1) rfl hw z
        · obtain ⟨B, LN', f1, f2, f3, f4⟩ := hft b hw
          exact hrep.apart N j B C LN' L2 b f1 e3 f2 hL2 (Ne.symm e2) f3 f4 z)
    (fun j C hj hN' => by
      subst hN'
      rcases set2_get hj with ⟨_, e⟩ | ⟨e1, _, _⟩
      · cases e
        refine ⟨L, get_prefix hL, hB, fun b hf => ?_⟩
        rcases hf with hf | ⟨LF', j, f1, f2, f3, f4⟩
        · exact .inl (.inl (.inl hf))
        · rw [hlast] at f1; cases f1
          by_cases e : j = i
          · subst e; rw [memi] at f4; exact .inl (.inr f4)
          · rw [memj j e] at f4
            rcases o2 j f3 with e' | e'
            · exact (e e').elim
            · exact .inl (.inl (hidfoot (.inr ⟨j, f2, e', f4⟩)))
      · exact (e1 rfl).elim)
    (fun j j' C C' L1 L2 b h1 h2 _ _ _ _ hne => (hne (h1.trans h2.symm)).elim)
  exact ⟨step.1, step.2, by simp [heap'], by simp [heap'], by simp [heap']⟩

theorem run_storeN {t : TypeId} {a x : TV} {H' : AH} {va vx : Value} {w : World} {r : Tr AH} (h0 : storeN P H t a x = some r) (h : r.val = some H') (hrep : Rep φ H w.heap) (ha : relT φ a va) (hx : relT φ x vx) :
    ∃ w' φ', (Instr.storeAt t va vx).run P w = .ok () w' ∧ Rep φ' H' w'.heap ∧ Ext φ H w φ' H' w' := by
  unfold storeN at h0
  split at h0
  · rename_i id wd i c
    split at h0
    · rename_i ks c0 ms n g hh F ow hb
      obtain rfl := Option.some.inj h0
      obtain ⟨L, hL, hin, rfl⟩ := ha
      split at h
      · rename_i v
        split at h
        · rename_i sz hn
          split at h
          · rename_i hlen
            obtain ⟨hlen, hsz0, rfl⟩ := hlen
            have hcells := relA.cells hx
            have hvlen : vx.cells.size = sz := by have := hcells.length_eq; simp at this; omega
            split at h
            · rename_i y hbc
              have := Nat.eq_of_beq_eq_true hbc
              subst this
              have hsz1 : sz = 1 := by simpa [AV.cells] using hlen.symm
              subst hsz1
              have hone := relS.oneCell (show relS φ y vx from hx)
              unfold putN at h
              split at h
              · simp only [Tr.val] at h
                split at h
                · rename_i hc
                  cases h
                  have hv : vx = .slice none 0 0 := hx
                  subst hv
                  have nof : ∀ b, ¬ footV (.slice none 0 0) b := by rintro b ⟨a, l, c, e, h1, _⟩; cases e
                  obtain ⟨w', φ', e1, e2, e3⟩ := run_putN (h' := hh) (hm0 := hh i) (N := H.length) (m := 0) hrep hb hL hin hn hc rfl (by have := get_lt' (blk_some hb); omega) (.inl ⟨rfl, none, rfl⟩) (fun b hf => (nof b hf).elim) rfl (fun _ _ => rfl)
                  have es : H.set H.length none = H := List.set_eq_of_length_le (Nat.le_refl _)
                  rw [es] at e2 e3
                  exact ⟨w', φ', e1, e2, e3⟩
                · cases h
              · rename_i N wd' m
                split at h
                · rename_i hw
                  obtain ⟨rfl, hw0, hNid⟩ := hw
                  split at h
                  · rename_i ms' m' gN hbN
                    split at h
                    · rename_i hms
                      subst hms
                      simp only [Tr.val] at h
                      split at h
                      · rename_i hc
                        cases h
                        obtain ⟨LN, hLN, hLNn, hv⟩ := (show relS φ (.slw N ms'.length m) vx from hx)
                        obtain ⟨LN', hLN', hn', hsz', hreal⟩ := hrep.blk _ _ (blk_some hbN)
                        rw [hLN] at hLN'; cases hLN'
                        have hM : MemRep φ w.heap ms' true m (fun k => gN (k / ms'.length) (k % ms'.length)) vx := by
                          rcases hv with ⟨h0, a, rfl⟩ | ⟨cap, hle, hcs, rfl⟩
                          · exact .inl ⟨h0, a, rfl⟩
                          · rcases Nat.eq_zero_or_pos cap with hz | hp
                            · subst hz
                              obtain rfl : m = 0 := by omega
                              exact .inl ⟨rfl, _, rfl⟩
                            · have : 0 < cap * ms'.length := Nat.mul_pos hp (by omega)
                              rcases hreal with hz | ⟨cs, ty, fr, k1, k2, k3, k4⟩
                              · omega
                              · refine .inr ⟨LN.b, LN.base, cap, cs, ty, fr, rfl, hp, hle, k1, by omega, k3, fun j c sk hj hc => ?_⟩
                                have hcl := get_lt' hc
                                obtain ⟨u, e1, e2⟩ := k4 j c sk (by omega) hc
                                refine ⟨u, e1, ?_⟩
                                have e3 : (j * ms'.length + c) / ms'.length = j := by
                                  rw [Nat.mul_comm, Nat.mul_add_div (by omega), Nat.div_eq_of_lt hcl, Nat.add_zero]
                                have e4 : (j * ms'.length + c) % ms'.length = c := by
                                  rw [Nat.mul_comm, Nat.mul_add_mod, Nat.mod_eq_of_lt hcl]
                                show relS φ (mkS sk (gN ((j * ms'.length + c) / ms'.length) ((j * ms'.length + c) % ms'.length))) u
                                rw [e3, e4]
                                exact e2
                        have hfoot : ∀ b, footV vx b → ∃ B LN', H[N]? = some (some B) ∧ φ[N]? = some LN' ∧ B.mut = true ∧ B.foot φ LN' b := by
                          rintro b ⟨a, l, c, e, h1, rfl⟩
                          refine ⟨_, LN, blk_some hbN, hLN, rfl, ?_⟩
                          rcases hv with ⟨h0, a', rfl⟩ | ⟨cap, hle, hcs, rfl⟩
                          · cases e; omega
                          · cases e
                            have : 0 < c * ms'.length := Nat.mul_pos h1 (by omega)
                            exact ⟨by omega, rfl⟩
                        exact run_putN hrep hb hL hin hn hc hone hNid hM hfoot (by funext k; exact if_pos rfl) (fun j hj => by funext k; exact if_neg hj)
                      · cases h
                    · simp [Tr.val] at h
                  · simp [Tr.val] at h
                · simp [Tr.val] at h
              · simp [Tr.val] at h
            · split at h
              · rename_i g' hmiss hg'
                obtain rfl := val_ok h
                obtain ⟨w', e1, e2, e3⟩ := run_storeNum hrep hb hL hin hn hsz0 hvlen hcells (by have := missK_one hmiss; exact this) hg'
                exact ⟨w', φ, e1, e2, e3⟩
              · simp [Tr.val] at h
          · simp [Tr.val] at h
        · simp [Tr.val] at h
      · simp [Tr.val] at h
    · cases h0
  · rename_i id wd i o n len j c
    split at h0
    · rename_i ks c0 ms r' g hh F ow hb
      obtain rfl := Option.some.inj h0
      split at h
      · rename_i y
        split at h
        · rename_i hn
          split at h
          · rename_i hwd
            obtain ⟨rfl, hw0⟩ := hwd
            obtain ⟨hj, L, hL, hin, rfl⟩ := px_pr hw0 ha
            split at h
            · rename_i g' hmiss hg'
              obtain rfl := val_ok h
              have e := updRowX_eq hj hg'
              have hone := relS.oneCell (show relS φ y vx from hx)
              have hcells : vx.cells = #[vx] := Value.cells_of_oneCell hone
              have hm := missK_get hmiss j hj
              rw [show o + c + j * n = o + j * n + c by omega] at e hm
              obtain ⟨w', e1, e2, e3⟩ := run_storeNum hrep hb hL hin hn (by omega) (by rw [hcells]; rfl) (by rw [hcells]; exact ⟨hx, trivial⟩) (by omega) e
              exact ⟨w', φ, e1, e2, e3⟩
            · simp [Tr.val] at h
          · simp [Tr.val] at h
        · simp [Tr.val] at h
      · simp [Tr.val] at h
    · cases h0
  · rename_i id F wd i j o n len jj c
    obtain rfl := Option.some.inj h0
    split at h
    · rename_i ks c0 ms r' g hh F' ow hb
      split at h
      · rename_i hwd
        obtain ⟨rfl, rfl, ho⟩ := hwd
        split at h
        · rename_i y
          split at h
          · rename_i hn
            split at h
            · rename_i sk hsk
              split at h
              · rename_i z hz
                obtain rfl := val_ok h
                obtain ⟨L, LF, b, ob, l0, cap0, hL, hF, hin, hm, hj, hjj, rfl⟩ := ha
                have hk := kindX_get hsk hjj
                rw [show o + c + jj * n = o + jj * n + c by omega] at hk
                obtain ⟨w', e1, e2, e3⟩ := run_storeMem hrep hb ho hL hF hin hm hj hn (show relS φ y vx from hx) hk hz
                rw [show o + c + jj * n = o + jj * n + c by omega]
                exact ⟨w', φ, e1, e2, e3⟩
              · simp [Tr.val] at h
            · simp [Tr.val] at h
          · simp [Tr.val] at h
        · simp [Tr.val] at h
      · simp [Tr.val] at h
    · simp [Tr.val] at h
  · cases h0

theorem run_storeS {t : TypeId} {a x : TV} {H' : AH} {va vx : Value} {w : World} (h : (storeS P H t a x).val = some H') (hrep : Rep φ H w.heap) (ha : relT φ a va) (hx : relT φ x vx) :
    ∃ w' φ', (Instr.storeAt t va vx).run P w = .ok () w' ∧ Rep φ' H' w'.heap ∧ Ext φ H w φ' H' w' := by
  unfold storeS at h
  split at h
  · rename_i r hr
    exact run_storeN hr h hrep ha hx
  · obtain ⟨w', e1, e2, e3⟩ := run_storeO h hrep ha hx
    exact ⟨w', φ, e1, e2, e3⟩

end
end Go.AM
end
