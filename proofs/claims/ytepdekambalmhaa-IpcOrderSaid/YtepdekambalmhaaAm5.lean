/-
  The abstract machine, part 5: one operation, whichever: what it does is what the abstract one says.
-/
import Derived.Test.YtepdekambalmhaaAm4
import Derived.Laws.Rows
namespace Go.AM

/-- What an operation comes to: a value and a later memory; or a call that comes to it. -/
def Does (P : Program) (φ : Phi) (H : AH) (w : World) (r : Result Next) (tv : TV) (H' : AH) : Prop :=
  (∃ v w' φ', (r = .ok (.value v) w' ∨ (r = .ok .skip w' ∧ v = undef)) ∧ relT φ' tv v ∧ Rep φ' H' w'.heap ∧ Ext φ H w φ' H' w') ∨
  (∃ f args, r = .ok (.enter f args) w ∧ Calls P f args w fun e w' => ∃ v φ', e = .returned v ∧ relT φ' tv v ∧ Rep φ' H' w'.heap ∧ Ext φ H w φ' H' w')

/-- What only reads reads the same where a block more stands behind. -/
def MonoS : Spec → Prop
  | .read F => ∀ targs H tv B, (F targs H).val = some tv → (F targs (H ++ [B])).val = some tv
  | _ => True

/-- A specification holds of a function. -/
def SpecF (P : Program) (f : FuncId) (s : Spec) : Prop :=
  s = .none ∨ ((∃ fn, P.funcs[f]? = some fn ∧ (fn.name == "runtime.NumGoroutine") = false ∧ fn.body.isNone = false) ∧
    (∀ φ H w targs (args : List Value) tv H', (s.app targs H).val = some (tv, H') → Rep φ H w.heap → All2 (relT φ) targs args →
      Calls P f args.toArray w fun e w' => ∃ v φ', e = .returned v ∧ relT φ' tv v ∧ Rep φ' H' w'.heap ∧ Ext φ H w φ' H' w') ∧ MonoS s)

def SpecOK (P : Program) (Γ : Specs) : Prop := ∀ f, SpecF P f (Γ f)

section
variable {P : Program} {φ : Phi} {H : AH}

theorem blk_some {id : Nat} {B : Blk} (h : blk H id = some B) : H[id]? = some (some B) := by
  unfold blk at h
  cases hx : H[id]? with
  | none => simp [hx] at h
  | some x => simp [hx] at h; rw [h]

theorem blk_mono {id : Nat} {b : Blk} {B : Option Blk} (h : blk H id = some b) : blk (H ++ [B]) id = some b := by
  have h1 := blk_some h
  have hl : id < H.length := by
    rcases Nat.lt_or_ge id H.length with h2 | h2
    · exact h2
    · rw [List.getElem?_eq_none h2] at h1; cases h1
  unfold blk
  rw [List.getElem?_append_left hl, h1]
  rfl

theorem blkC_mono {id : Nat} {b : Blk} {B : Option Blk} (h : blkC H id = some b) : blkC (H ++ [B]) id = some b := by
  unfold blkC at h ⊢
  cases hb : blk H id with
  | none => rw [hb] at h; cases h
  | some x => rw [hb] at h; rw [blk_mono hb]; exact h

/-- Cells that may be read. -/
theorem rep_blkC {heap : Array Obj} {id : Nat} {B : Blk} (hrep : Rep φ H heap) (h : blkC H id = some B) : ∃ L, φ[id]? = some L ∧ RepB φ L heap B := by
  unfold blkC at h
  split at h
  · rename_i l hb
    obtain rfl := Option.some.inj h
    obtain ⟨L, h1, h2⟩ := hrep.blk _ _ (blk_some hb)
    exact ⟨L, h1, h2⟩
  · exact hrep.blk _ _ (blk_some h)

theorem blkC_rows {id : Nat} {ks : List SK} {n : Nat} {g : Nat → Nat → Int} {own : Bool} (h : blkC H id = some (.rows ks n g own)) : blk H id = some (.rows ks n g own) := by
  unfold blkC at h
  split at h
  · cases h
  · exact h

theorem Does.value {w : World} {r : Result Next} {tv : TV} {v : Value} (hr : r = .ok (.value v) w) (hv : relT φ tv v) (hrep : Rep φ H w.heap) : Does P φ H w r tv H :=
  .inl ⟨v, w, φ, .inl hr, hv, hrep, Ext.refl _ _ _⟩

/-! ### laying a new block -/

theorem get_push {id : Nat} {B B' : Blk} (hid : (H ++ [some B])[id]? = some (some B')) : (id < H.length ∧ H[id]? = some (some B')) ∨ (id = H.length ∧ B' = B) := by
  rcases Nat.lt_or_ge id H.length with h' | h'
  · left; rw [List.getElem?_append_left h'] at hid; exact ⟨h', hid⟩
  · right
    rw [List.getElem?_append_right h'] at hid
    have h0 : id - H.length = 0 := by
      rcases Nat.eq_zero_or_pos (id - H.length) with e | e
      · exact e
      · rw [List.getElem?_eq_none (by simp; omega)] at hid; cases hid
    rw [h0] at hid
    simp at hid
    exact ⟨by omega, hid.symm⟩

/-- One more block, that lies where no other one does, in a later memory in which the others are as they were. -/
theorem rep_more {heap heap' : Array Obj} {L : Loc} {B : Blk} (h : Rep φ H heap) (hsz : heap.size ≤ heap'.size) (old : ∀ b, b < heap.size → heap'[b]? = heap[b]?) (hb : ∀ b, B.foot L b → heap.size ≤ b)
    (hB : RepB (φ ++ [L]) L heap' B) :
    Rep (φ ++ [L]) (H ++ [some B]) heap' ∧ ExtH φ H heap (φ ++ [L]) (H ++ [some B]) heap' := by
  have hgetφ : ∀ (id : Nat), id < H.length → (φ ++ [L])[id]? = φ[id]? := fun id hlt => List.getElem?_append_left (by rw [h.len]; exact hlt)
  have hlast : (φ ++ [L])[H.length]? = some L := by rw [← h.len]; simp
  refine ⟨⟨by simp [h.len], ?_, ?_⟩, ⟨hsz, ⟨[L], rfl⟩, fun b hlt _ => old b hlt, ?_⟩⟩
  · intro id B' hid
    rcases get_push hid with ⟨hlt, hid'⟩ | ⟨rfl, rfl⟩
    · obtain ⟨L', h1, h2⟩ := h.blk id B' hid'
      exact ⟨L', by rw [hgetφ id hlt]; exact h1, (h2.mono [L]).of_heap fun b hf => old _ (h2.lt hf)⟩
    · exact ⟨L, hlast, hB⟩
  · intro id id' B1 B2 L1 L2 b h1 h2 h3 h4 hne hm z1 z2
    rcases get_push h1 with ⟨hlt, h1'⟩ | ⟨rfl, rfl⟩
    · rw [hgetφ id hlt] at h3
      obtain ⟨L1', e1, e2⟩ := h.blk id B1 h1'
      rw [h3] at e1; cases e1
      rcases get_push h2 with ⟨hlt', h2'⟩ | ⟨rfl, rfl⟩
      · rw [hgetφ id' hlt'] at h4
        exact h.apart id id' B1 B2 L1 L2 b h1' h2' h3 h4 hne hm z1 z2
      · rw [hlast] at h4; cases h4
        have := e2.lt z1; have := hb _ z2; omega
    · rw [hlast] at h3; cases h3
      rcases get_push h2 with ⟨hlt', h2'⟩ | ⟨rfl, rfl⟩
      · rw [hgetφ id' hlt'] at h4
        obtain ⟨L2', e1, e2⟩ := h.blk id' B2 h2'
        rw [h4] at e1; cases e1
        have := e2.lt z2; have := hb _ z1; omega
      · exact (hne rfl).elim
  · intro id B' L' b hid hL z
    rcases get_push hid with ⟨hlt, hid'⟩ | ⟨rfl, rfl⟩
    · rw [hgetφ id hlt] at hL
      exact .inr ⟨id, B', L', hid', hL, z, fun h => h⟩
    · rw [hlast] at hL; cases hL
      exact .inl (hb _ z)

theorem rep_push {heap : Array Obj} {o : Obj} {L : Loc} {B : Blk} (h : Rep φ H heap) (hb : ∀ b, B.foot L b → b = heap.size) (hB : RepB (φ ++ [L]) L (heap.push o) B) :
    Rep (φ ++ [L]) (H ++ [some B]) (heap.push o) ∧ ExtH φ H heap (φ ++ [L]) (H ++ [some B]) (heap.push o) :=
  rep_more h (by simp) (fun b hlt => by rw [Array.getElem?_push, if_neg (Nat.ne_of_lt hlt)]) (fun b z => Nat.le_of_eq (hb b z).symm) hB

theorem rep_alloc {w : World} {l : List AS} {cs : Array Value} (t : TypeId) (h : Rep φ H w.heap) (hl : All2 (relS φ) l cs.toList) :
    ∃ φ', relT φ' (allocA H l).1 (.pointer (some ⟨w.heap.size, 0, none⟩)) ∧ Rep φ' (allocA H l).2 (w.heap.push (.cells cs t)) ∧ ExtH φ H w.heap φ' (allocA H l).2 (w.heap.push (.cells cs t)) := by
  have hlast : (φ ++ [⟨w.heap.size, 0, l.length, 0, .nil⟩])[H.length]? = some (⟨w.heap.size, 0, l.length, 0, .nil⟩ : Loc) := by rw [← h.len]; simp
  obtain ⟨h1, h2⟩ := rep_push (o := .cells cs t) (L := ⟨w.heap.size, 0, l.length, 0, .nil⟩) (B := .cells l) h (fun _ hf => hf.2.symm) ⟨rfl, rfl, .inr ⟨cs, t, by simp, hl.mono fun _ _ h => relS.mono _ h⟩⟩
  exact ⟨_, ⟨_, hlast, by simp⟩, h1, h2⟩

/-! ### turning a block -/

theorem get_set {id : Nat} {x : Option Blk} {j : Nat} {C : Blk} (hj : (H.set id x)[j]? = some (some C)) : (j = id ∧ x = some C) ∨ (j ≠ id ∧ H[j]? = some (some C)) := by
  rw [List.getElem?_set] at hj
  by_cases e : id = j
  · subst e
    simp only [if_true] at hj
    split at hj
    · exact .inl ⟨rfl, Option.some.inj hj⟩
    · cases hj
  · simp [e] at hj
    exact .inr ⟨fun e' => e e'.symm, hj⟩

theorem rep_set {heap heap' : Array Obj} {id : Nat} {B B' : Blk} {L : Loc} (h : Rep φ H heap) (hid : H[id]? = some (some B)) (hL : φ[id]? = some L) (hm : B.mut = true) (hf : ∀ b, B'.foot L b → B.foot L b)
    (hsz : heap.size ≤ heap'.size) (ho : ∀ b, ¬ B.foot L b → b < heap.size → heap'[b]? = heap[b]?) (hB : RepB φ L heap' B') :
    Rep φ (H.set id (some B')) heap' ∧ ExtH φ H heap φ (H.set id (some B')) heap' := by
  refine ⟨⟨by simp [h.len], ?_, ?_⟩, ⟨hsz, ⟨[], by simp⟩, ?_, ?_⟩⟩
  · intro j C hj
    rcases get_set hj with ⟨rfl, hC⟩ | ⟨hne, hj'⟩
    · cases hC; exact ⟨L, hL, hB⟩
    · obtain ⟨L', e1, e2⟩ := h.blk j C hj'
      refine ⟨L', e1, e2.of_heap fun b z => ho _ (fun z' => ?_) (e2.lt z)⟩
      exact h.apart id j B C L L' b hid hj' hL e1 (Ne.symm hne) hm z' z
  · intro j j' C C' L1 L2 b h1 h2 h3 h4 hne hmC z1 z2
    rcases get_set h1 with ⟨rfl, hC⟩ | ⟨hn1, h1'⟩
    · cases hC
      rcases get_set h2 with ⟨rfl, _⟩ | ⟨hn2, h2'⟩
      · exact (hne rfl).elim
      · rw [hL] at h3; cases h3
        exact h.apart _ _ B C' L L2 b hid h2' hL h4 hne hm (hf _ z1) z2
    · rcases get_set h2 with ⟨rfl, hC⟩ | ⟨hn2, h2'⟩
      · cases hC
        rw [hL] at h4; cases h4
        exact h.apart _ _ B C L L1 b hid h1' hL h3 (Ne.symm hne) hm (hf _ z2) z1
      · exact h.apart _ _ C C' L1 L2 b h1' h2' h3 h4 hne hmC z1 z2
  · intro b hb hn
    exact ho b (hn id B L hid hm hL) hb
  · intro j C L' b hj hL' z
    rcases get_set hj with ⟨rfl, hC⟩ | ⟨_, hj'⟩
    · cases hC
      rw [hL] at hL'; cases hL'
      exact .inr ⟨j, B, L, hid, hL, hf _ z, fun _ => hm⟩
    · exact .inr ⟨j, C, L', hj', hL', z, fun h => h⟩

/-- A block is let go. -/
theorem rep_drop {heap : Array Obj} (id : Nat) (h : Rep φ H heap) : Rep φ (H.set id none) heap ∧ ExtH φ H heap φ (H.set id none) heap := by
  have key : ∀ {j : Nat} {C : Blk}, (H.set id none)[j]? = some (some C) → H[j]? = some (some C) := by
    intro j C hj
    rcases get_set hj with ⟨_, hC⟩ | ⟨_, hj'⟩
    · cases hC
    · exact hj'
  exact ⟨⟨by simp [h.len], fun j C hj => h.blk j C (key hj), fun j j' C C' L1 L2 b h1 h2 => h.apart j j' C C' L1 L2 b (key h1) (key h2)⟩,
    ⟨Nat.le_refl _, ⟨[], by simp⟩, fun _ _ _ => rfl, fun j C L b hj hL z => .inr ⟨j, C, L, key hj, hL, z, fun h => h⟩⟩⟩

/-! ### loads -/

theorem run_loadVar_at {w : World} {t : TypeId} {b o n : Nat} {cs : Array Value} {ty : TypeId} {fr : Nat × Nat} (hg : w.heap[b]? = some (.cells cs ty fr)) (ha : aggT P t = some true) (hn : sizeT P t = some n) (ho : o + n ≤ cs.size) :
    (loadVar t ⟨b, o, none⟩).run P w = .ok (.agg ((cs.toList.drop o).take n).toArray) w := by
  have hlen : ((cs.toList.drop o).take n).length = n := by simp; omega
  have := run_loadCells_list (P := P) w ⟨b, o, none⟩ ((cs.toList.drop o).take n) (fun j v hv => by
    rw [add_zero_off, cell_of_row w b (o + j) cs ty fr hg]
    rw [List.getElem?_take] at hv
    split at hv
    · simpa using hv
    · cases hv)
  rw [hlen] at this
  simp only [loadVar, Sem.run_bind, run_isAgg ha, Result.andThen_ok, if_true, run_size hn, this]
  rfl

theorem run_loadVar_one {w : World} {t : TypeId} {b o : Nat} {cs : Array Value} {ty : TypeId} {fr : Nat × Nat} {v : Value} (hg : w.heap[b]? = some (.cells cs ty fr)) (ha : aggT P t = some false) (hv : cs[o]? = some v) :
    (loadVar t ⟨b, o, none⟩).run P w = .ok v w := by
  simp [loadVar, run_isAgg ha, cell_of_row w b o cs ty fr hg, hv]

theorem rowCells_rel {ks : List SK} {g : Nat → Int} {cs : List Value} {o : Nat} : ∀ {n c : Nat} {l : List AS}, rowCells ks g n c = some l →
    (∀ (c : Nat) (sk : SK), ks[c]? = some sk → ∃ v, cs[o + c]? = some v ∧ relS φ (mkS sk (g c)) v) → All2 (relS φ) l ((cs.drop (o + c)).take n) ∧ o + c + n ≤ cs.length + (if n = 0 then o + c else 0)
  | 0, c, l, h, _ => by simp [rowCells] at h; subst h; simp [All2]
  | n + 1, c, l, h, hk => by
    simp only [rowCells] at h
    split at h
    · rename_i sk hsk
      split at h
      · rename_i r hr
        obtain rfl := Option.some.inj h
        obtain ⟨v, hv, hrel⟩ := hk c sk hsk
        obtain ⟨ih1, ih2⟩ := rowCells_rel (n := n) (c := c + 1) hr hk
        have hlt : o + c < cs.length := by
          rcases Nat.lt_or_ge (o + c) cs.length with h' | h'
          · exact h'
          · simp [List.getElem?_eq_none h'] at hv
        have hd : cs.drop (o + c) = v :: cs.drop (o + c + 1) := by
          rw [List.drop_eq_getElem_cons hlt]
          rw [List.getElem?_eq_getElem hlt] at hv
          cases hv; rfl
        rw [hd, List.take_succ_cons]
        refine ⟨⟨hrel, by rw [show o + c + 1 = o + (c + 1) by omega]; exact ih1⟩, ?_⟩
        simp only [Nat.add_eq_zero_iff, Nat.one_ne_zero, and_false, if_false]
        split at ih2 <;> omega
      · cases h
    · cases h

theorem run_loadT {t : TypeId} {a tv : TV} {v : Value} {w : World} (h : (loadT P H t a).val = some tv) (hrep : Rep φ H w.heap) (ha : relT φ a v) :
    ∃ u, relT φ tv u ∧ (Instr.loadAt t v).run P w = .ok u w := by
  unfold loadT at h
  split at h
  · rename_i id o
    split at h
    · rename_i l hb
      obtain ⟨L, hL, h0, hsz, hreal⟩ := rep_blkC hrep hb
      obtain ⟨L', hL', rfl⟩ := ha
      rw [hL] at hL'; cases hL'
      split at h
      · rename_i hag
        split at h
        · rename_i n hn
          split at h
          · rename_i hle
            obtain ⟨hle, hn0⟩ := hle
            obtain rfl := val_ok h
            rcases hreal with hz | ⟨cs, ty, hcs, hrel⟩
            · omega
            have hlen := hrel.length_eq
            simp at hlen
            refine ⟨_, ⟨_, rfl, ?_⟩, by simp only [Instr.loadAt, Instr.sureAddr, Sem.run_bind, Sem.run_pure, Result.andThen_ok, h0, Nat.zero_add]; exact run_loadVar_at hcs hag hn (by omega)⟩
            exact (hrel.drop o).take n
          · simp [Tr.val] at h
        · simp [Tr.val] at h
      · rename_i hag
        rw [val_opt] at h
        obtain ⟨x, hx, rfl⟩ := Option.map_eq_some_iff.1 h
        rcases hreal with hz | ⟨cs, ty, hcs, hrel⟩
        · have : l = [] := List.length_eq_zero_iff.1 (by omega)
          rw [this] at hx; simp at hx
        obtain ⟨u, hu, hr⟩ := hrel.get hx
        exact ⟨u, hr, by simp only [Instr.loadAt, Instr.sureAddr, Sem.run_bind, Sem.run_pure, Result.andThen_ok, h0, Nat.zero_add]; exact run_loadVar_one hcs hag (by simpa using hu)⟩
      · simp [Tr.val] at h
    · simp [Tr.val] at h
  · rename_i id wd i c
    split at h
    · rename_i ks n g own hb
      split at h
      · rename_i hwd
        obtain ⟨L, hL, hLn, hn, hreal⟩ := hrep.blk _ _ (blk_some hb)
        obtain ⟨L', hL', hin, rfl⟩ := ha
        rw [hL] at hL'; cases hL'
        subst hwd
        have hi : i < n := by omega
        have hpos : ∀ {sk : SK}, ks[c]? = some sk → ∃ cs ty fr, w.heap[L.b]? = some (.cells cs ty fr) ∧ L.base + L.sz ≤ cs.size ∧
            ∀ (i c : Nat) (sk : SK), i < n → ks[c]? = some sk → ∃ v, cs[L.base + (i * ks.length + c)]? = some v ∧ relS φ (mkS sk (g i c)) v := by
          intro sk hsk
          rcases hreal with hz | ⟨cs, ty, fr, h1, h2, _, h4⟩
          · have hc : c < ks.length := by
              rcases Nat.lt_or_ge c ks.length with h' | h'
              · exact h'
              · simp [List.getElem?_eq_none h'] at hsk
            have : 1 * ks.length ≤ n * ks.length := Nat.mul_le_mul_right _ (by omega)
            omega
          · exact ⟨cs, ty, fr, h1, h2, h4⟩
        split at h
        · rename_i hag
          split at h
          · rename_i m hm
            split at h
            · simp [Tr.val] at h
            rename_i hm0
            rw [val_opt] at h
            obtain ⟨l, hl, rfl⟩ := Option.map_eq_some_iff.1 h
            obtain ⟨m', rfl⟩ : ∃ m', m = m' + 1 := ⟨m - 1, by omega⟩
            have hsk0 : ∃ sk, ks[c]? = some sk := by
              cases hsk : ks[c]? with
              | some sk => exact ⟨sk, rfl⟩
              | none => simp [rowCells, hsk] at hl
            obtain ⟨sk0, hsk0⟩ := hsk0
            obtain ⟨cs, ty, fr, hcs, hsz, hrows⟩ := hpos hsk0
            have hk : ∀ (c : Nat) (sk : SK), ks[c]? = some sk → ∃ v, cs.toList[(L.base + i * ks.length) + c]? = some v ∧ relS φ (mkS sk (g i c)) v := by
              intro c sk hsk
              obtain ⟨v, h1, h2⟩ := hrows i c sk hi hsk
              exact ⟨v, by rw [show L.base + i * ks.length + c = L.base + (i * ks.length + c) by omega]; simpa using h1, h2⟩
            obtain ⟨h1, h2⟩ := rowCells_rel hl hk
            refine ⟨_, ⟨_, rfl, h1⟩, ?_⟩
            simp only [Instr.loadAt, Instr.sureAddr, Sem.run_bind, Sem.run_pure, Result.andThen_ok]
            rw [if_neg (by omega)] at h2
            have := run_loadVar_at (P := P) (t := t) (n := m' + 1) (o := L.base + (i * ks.length + c)) hcs hag hm (by simp at h2; omega)
            rw [this, Nat.add_assoc]
          · simp [Tr.val] at h
        · rename_i hag
          split at h
          · rename_i sk hsk
            obtain rfl := val_ok h
            obtain ⟨cs, ty, fr, hcs, hsz, hrows⟩ := hpos hsk
            obtain ⟨u, h1, h2⟩ := hrows i c sk hi hsk
            exact ⟨u, h2, by simp only [Instr.loadAt, Instr.sureAddr, Sem.run_bind, Sem.run_pure, Result.andThen_ok]; exact run_loadVar_one hcs hag h1⟩
          · simp [Tr.val] at h
        · simp [Tr.val] at h
      · simp [Tr.val] at h
    · simp [Tr.val] at h
  · simp [Tr.val] at h

theorem allK_get {sk : SK} {ks : List SK} {n : Nat} : ∀ {len o : Nat}, allK sk ks n len o = true → ∀ j, j < len → ks[o + j * n]? = some sk
  | 0, o, _, j, hj => by omega
  | m + 1, o, h, j, hj => by
    simp only [allK] at h
    split at h
    · rename_i k hk
      split at h
      · rename_i hd
        have hd := of_decide_eq_true hd
        subst hd
        cases j with
        | zero => simpa using hk
        | succ j =>
          rw [← allK_get h j (by omega)]
          congr 1
          rw [Nat.add_mul]; omega
      · cases h
    · cases h

theorem kindX_get {ks : List SK} {n len o j : Nat} {sk : SK} (h : kindX ks n len o = some sk) (hj : j < len) : ks[o + j * n]? = some sk := by
  unfold kindX at h
  split at h
  · split at h
    · rename_i ha
      obtain rfl := Option.some.inj h
      exact allK_get ha j hj
    · cases h
  · cases h

theorem rowCellsX_eq {ks : List SK} {g : Nat → Int} {n len j : Nat} (hj : j < len) : ∀ {m o : Nat} {r : List AS}, rowCellsX ks g n len j m o = some r → rowCells ks g m (o + j * n) = some r
  | 0, _, _, h => h
  | m + 1, o, r, h => by
    simp only [rowCellsX] at h
    split at h
    · rename_i sk hsk
      split at h
      · rename_i r' hr
        obtain rfl := Option.some.inj h
        have e := rowCellsX_eq hj hr
        rw [show o + 1 + j * n = o + j * n + 1 by omega] at e
        simp only [rowCells, kindX_get hsk hj, e]
      · cases h
    · cases h

/-- A part that is not told is one that is told. -/
theorem px_p {id n o len j c : Nat} {v : Value} (h : relS φ (.px id 0 0 o n len j c) v) : j < len ∧ relS φ (.p id (o + j * n + c)) v := by
  obtain ⟨L, hL, hj, _, rfl⟩ := h
  exact ⟨hj, L, hL, by simp⟩

theorem px_pr {id wd i n o len j c : Nat} {v : Value} (hw : wd ≠ 0) (h : relS φ (.px id wd i o n len j c) v) : j < len ∧ relS φ (.pr id wd i (o + j * n + c)) v := by
  obtain ⟨L, hL, hj, hi, rfl⟩ := h
  rcases hi with h0 | hi
  · exact (hw h0).elim
  · exact ⟨hj, L, hL, hi, rfl⟩

theorem run_loadS {t : TypeId} {a tv : TV} {v : Value} {w : World} (h : (loadS P H t a).val = some tv) (hrep : Rep φ H w.heap) (ha : relT φ a v) :
    ∃ u, relT φ tv u ∧ (Instr.loadAt t v).run P w = .ok u w := by
  unfold loadS at h
  split at h
  · rename_i id wd i o n len j c
    unfold loadX at h
    split at h
    · rename_i l hb
      split at h
      · rename_i hw
        obtain ⟨rfl, rfl⟩ := hw
        obtain ⟨hj, ha'⟩ := px_p ha
        refine run_loadT (a := .v (.s (.p id (o + j * n + c)))) ?_ hrep ha'
        simp only [loadT, hb]
        split at h
        · split at h
          · rename_i m hm
            split at h
            · simp [Tr.val] at h
            rename_i hm0
            rw [val_opt] at h
            obtain ⟨r, hr, rfl⟩ := Option.map_eq_some_iff.1 h
            obtain ⟨rfl, e2⟩ := selSs_get hj hr
            have e2 := e2 hm0
            rw [if_pos ⟨by omega, hm0⟩, show o + c + j * n = o + j * n + c by omega]
            rfl
          · simp [Tr.val] at h
        · rw [val_opt] at h
          obtain ⟨r, hr, rfl⟩ := Option.map_eq_some_iff.1 h
          have e := selS_get hr hj
          rw [show o + c + j * n = o + j * n + c by omega] at e
          simp only [*, val_opt, Option.map_some]
        · simp [Tr.val] at h
      · simp [Tr.val] at h
    · rename_i ks m g own hb
      have hb := blkC_rows hb
      split at h
      · rename_i hw
        obtain ⟨rfl, hw0⟩ := hw
        obtain ⟨hj, ha'⟩ := px_pr hw0 ha
        refine run_loadT (a := .v (.s (.pr id ks.length i (o + j * n + c)))) ?_ hrep ha'
        simp only [loadT, hb, if_true]
        split at h
        · split at h
          · rename_i m hm
            split at h
            · simp [Tr.val] at h
            rename_i hm0
            rw [val_opt] at h
            obtain ⟨r, hr, rfl⟩ := Option.map_eq_some_iff.1 h
            have e := rowCellsX_eq hj hr
            rw [show o + c + j * n = o + j * n + c by omega] at e
            simp only [*, if_false, val_opt, Option.map_some]
          · simp [Tr.val] at h
        · split at h
          · rename_i sk hsk
            obtain rfl := val_ok h
            have e := kindX_get hsk hj
            rw [show o + c + j * n = o + j * n + c by omega] at e
            simp only [*]
            rw [show o + c + j * n = o + j * n + c by omega]
            rfl
          · simp [Tr.val] at h
        · simp [Tr.val] at h
      · simp [Tr.val] at h
    · simp [Tr.val] at h
  · exact run_loadT h hrep ha

end
end Go.AM
