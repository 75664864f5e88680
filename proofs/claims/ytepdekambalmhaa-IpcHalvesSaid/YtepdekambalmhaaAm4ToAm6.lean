/-
  The abstract machine, part 4: the other operations that do not look at the memory.
-/
import Derived.Test.YtepdekambalmhaaAm1ToAm3
import Derived.Laws.Rows
section
namespace Go.AM

section
variable {P : Program} {φ : Phi}

theorem relT_v {a : AV} {v : Value} : relT φ (.v a) v ↔ relA φ a v := Iff.rfl
theorem relA_s {a : AS} {v : Value} : relA φ (.s a) v ↔ relS φ a v := Iff.rfl

theorem add_zero_off (b o n : Nat) : (⟨b, o, none⟩ : Addr).add n = ⟨b, o + n, none⟩ := by
  unfold Addr.add; split <;> simp_all

theorem zeroT_rel {t : TypeId} {l : List AS} (h : zeroT P t = some l) : ∃ i z, P.info? t = some i ∧ i.zero = some z ∧ All2 (relS φ) l z.cells.toList := by
  unfold zeroT at h
  cases hi : P.info? t with
  | none => simp [hi] at h
  | some i =>
    cases hz : i.zero with
    | none => simp [hi, hz] at h
    | some z =>
      simp only [hi, hz, Option.map_eq_some_iff] at h
      obtain ⟨a, ha, rfl⟩ := h
      exact ⟨i, z, rfl, hz, relA.cells (absV_rel ha)⟩

/-! ### build -/

theorem setAll_rel {l vs : List AS} {cs ds : List Value} (hl : All2 (relS φ) l cs) (hv : All2 (relS φ) vs ds) (o : Nat) :
    All2 (relS φ) (setAll l o vs) (cs.take o ++ ds ++ cs.drop (o + ds.length)) := by
  unfold setAll
  rw [hv.length_eq]
  exact ((hl.take o).append hv).append (hl.drop _)

theorem foldl_set (cs : Array Value) (off : Nat) : ∀ (ds : List Value) (k : Nat), off + k + ds.length ≤ cs.size →
    ((ds.zipIdx k).foldl (fun cs (x : Value × Nat) => cs.setIfInBounds (off + x.2) x.1) cs).toList = cs.toList.take (off + k) ++ ds ++ cs.toList.drop (off + k + ds.length)
  | [], k, _ => by simp
  | d :: ds, k, h => by
    simp only [List.length_cons] at h
    simp only [List.zipIdx_cons, List.foldl_cons]
    have ih := foldl_set (cs.setIfInBounds (off + k) d) off ds (k + 1) (by simp; omega)
    rw [ih]
    apply List.ext_getElem?
    intro j
    simp only [Array.toList_setIfInBounds, List.getElem?_append, List.length_take, List.length_set, Array.length_toList, List.getElem?_take, List.getElem?_drop, List.getElem?_set, List.length_append, List.length_cons]
    have e1 : min (off + (k + 1)) cs.size = off + k + 1 := by omega
    have e2 : min (off + k) cs.size = off + k := by omega
    rw [e1, e2]
    by_cases h1 : j < off + k
    · have h2 : ¬ (off + k = j) := by omega
      simp [h1, h2, show j < off + k + 1 by omega, show j < off + k + 1 + ds.length by omega, show j < off + k + (ds.length + 1) by omega, show j < off + (k + 1) by omega]
    · by_cases h2 : off + k = j
      · subst h2
        simp [show off + k < cs.size by omega, show off + k < off + k + 1 + ds.length by omega, show off + k < off + (k + 1) by omega]
      · have h3 : off + k + 1 ≤ j := by omega
        by_cases h4 : j < off + k + 1 + ds.length
        · simp [h1, h4, show ¬ j < off + k + 1 by omega, show j < off + k + (ds.length + 1) by omega]
          rw [show j - (off + k) = (j - (off + k + 1)) + 1 by omega]
          simp
        · simp only [h4, if_false, show ¬ j < off + k + (ds.length + 1) by omega]
          rw [show off + (k + 1) + ds.length + (j - (off + k + 1 + ds.length)) = j by omega, show off + k + (ds.length + 1) + (j - (off + k + (ds.length + 1))) = j by omega]
          simp [h2]

theorem fill_rel {place : Nat → Option (Nat × Nat)} : ∀ {parts : List (Nat × AV)} {vals : List (Nat × Value)} {l r : List AS} {cs : Array Value},
    All2 (relS φ) l cs.toList → All2 (fun (a : Nat × AV) (b : Nat × Value) => a.1 = b.1 ∧ relA φ a.2 b.2) parts vals → fillA place l parts = some r →
    ∃ ds, Instr.fill place cs vals = some ds ∧ All2 (relS φ) r ds.toList
  | [], [], l, r, cs, hl, _, h => by
    simp only [fillA, Option.some.injEq] at h
    subst h
    exact ⟨cs, rfl, hl⟩
  | (i, a) :: parts, (j, v) :: vals, l, r, cs, hl, hp, h => by
    obtain ⟨⟨rfl, hav⟩, hp'⟩ := hp
    simp only [fillA] at h
    cases hpl : place i with
    | none => simp [hpl] at h
    | some os =>
      obtain ⟨off, size⟩ := os
      simp only [hpl] at h
      split at h
      · rename_i hc
        obtain ⟨hc1, hc2⟩ := hc
        have hcells := hav.cells
        have hlen : v.cells.size = size := by have := hcells.length_eq; simp at this; omega
        have hsz : cs.size = l.length := by have := hl.length_eq; simp at this; omega
        simp only [Instr.fill, hpl]
        rw [if_neg (by simp [hlen]; omega)]
        refine fill_rel ?_ hp' h
        have e := foldl_set cs off v.cells.toList 0 (by simp [hlen]; omega)
        have e' : (v.cells.zipIdx.foldl (fun cs (x : Value × Nat) => cs.setIfInBounds (off + x.2) x.1) cs).toList = cs.toList.take off ++ v.cells.toList ++ cs.toList.drop (off + v.cells.toList.length) := by
          rw [← Array.foldl_toList]
          simpa using e
        have := setAll_rel hl hcells off
        rw [← e'] at this
        exact this
      · cases h
  | [], _ :: _, _, _, _, _, hp, _ => hp.elim
  | _ :: _, [], _, _, _, _, hp, _ => hp.elim

theorem partsT_rel {ρ : Operand → TV} {e : Operand → Value} (hρ : ∀ x, relT φ (ρ x) (e x)) : ∀ {parts : List (Nat × Operand)} {ps : List (Nat × AV)}, partsT ρ parts = some ps →
    All2 (fun (a : Nat × AV) (b : Nat × Value) => a.1 = b.1 ∧ relA φ a.2 b.2) ps (parts.map fun x => (x.1, e x.2))
  | [], ps, h => by simp [partsT] at h; subst h; trivial
  | (i, x) :: rest, ps, h => by
    simp only [partsT] at h
    have hx := hρ x
    split at h
    · rename_i a ha
      rw [ha] at hx
      split at h
      · rename_i r hr
        obtain rfl := Option.some.inj h
        exact ⟨⟨rfl, hx⟩, partsT_rel hρ hr⟩
      · cases h
    · cases h

theorem placesT_run : ∀ {fs : List Field} {ps : List (Nat × Nat)}, placesT P fs = some ps → ∀ w, (fs.mapM fun f => Prod.mk f.offset <$> sizeOf f.type).run P w = .ok ps w
  | [], ps, h, w => by simp [placesT] at h; subst h; simp
  | f :: fs, ps, h, w => by
    simp only [placesT] at h
    split at h
    · rename_i n hn
      split at h
      · rename_i r hr
        obtain rfl := Option.some.inj h
        simp [List.mapM_cons, run_size hn, placesT_run hr]
      · cases h
    · cases h

theorem run_buildT {t : TypeId} {parts : List (Nat × AV)} {vals : Array (Nat × Value)} {tv : TV} (h : buildT P t parts = some tv)
    (hp : All2 (fun (a : Nat × AV) (b : Nat × Value) => a.1 = b.1 ∧ relA φ a.2 b.2) parts vals.toList) : ∃ v, relT φ tv v ∧ ∀ w, (Instr.build t vals).run P w = .ok v w := by
  unfold buildT at h
  cases hz : zeroT P t with
  | none => simp [hz] at h
  | some zero =>
    obtain ⟨i, z, hi, hzz, hrel⟩ := zeroT_rel (φ := φ) hz
    simp only [hz] at h
    have hzero : ∀ w, (zeroValue t).run P w = .ok z w := fun w => by simp [zeroValue, typeInfo, hi, hzz]
    split at h
    · rename_i fs hu
      split at h
      · rename_i ps hps
        obtain ⟨l, hl, rfl⟩ := Option.map_eq_some_iff.1 h
        obtain ⟨ds, hds, hr⟩ := fill_rel hrel hp hl
        refine ⟨.agg ds, ⟨ds, rfl, hr⟩, fun w => ?_⟩
        have hpl := placesT_run hps w
        have hpl' : (fs.mapM fun f => (do pure (f.offset, ← sizeOf f.type) : Sem (Nat × Nat))).run P w = .ok ps.toArray w := by
          rw [Array.mapM_eq_mapM_toList]
          simp only [Sem.run_map]
          have : (fun (f : Field) => (do pure (f.offset, ← sizeOf f.type) : Sem (Nat × Nat))) = fun (f : Field) => Prod.mk f.offset <$> sizeOf f.type := by
            funext f; rfl
          rw [this, hpl]
          rfl
        simp only [Instr.build, Sem.run_bind, hzero, Result.andThen_ok, run_underlying hu, hpl']
        have : (fun (x : Nat) => ps.toArray[x]?) = (fun (x : Nat) => ps[x]?) := by funext x; simp
        rw [this, hds]
        rfl
      · cases h
    · rename_i n e hu
      split at h
      · rename_i k hk
        obtain ⟨l, hl, rfl⟩ := Option.map_eq_some_iff.1 h
        obtain ⟨ds, hds, hr⟩ := fill_rel hrel hp hl
        refine ⟨.agg ds, ⟨ds, rfl, hr⟩, fun w => ?_⟩
        simp only [Instr.build, Sem.run_bind, hzero, Result.andThen_ok, run_underlying hu, run_size hk, hds]
        rfl
      · cases h
    · cases h

/-! ### parts and places -/

theorem run_fieldPlace {f : Field} {n : Nat} (a : Addr) (hn : sizeT P f.type = some n) (h0 : n ≠ 0) (w : World) : (fieldPlace a f).run P w = .ok (a.add f.offset) w := by
  simp [fieldPlace, run_size hn, h0]

theorem run_fieldAddrT {s : TypeId} {x tv : TV} {f : Nat} {a : Value} (h : fieldAddrT P s x f = some tv) (ha : relT φ x a) : ∃ v, relT φ tv v ∧ ∀ w, (Instr.fieldAt s a f).run P w = .ok v w := by
  unfold fieldAddrT at h
  split at h
  · rename_i fs hu
    split at h
    · rename_i fd hfd
      have hfd' : fs[f]? = some fd := by simpa using hfd
      split at h
      · cases h
      · rename_i n hn hz
        have hz' : n ≠ 0 := fun e => hn e
        split at h
        · obtain rfl := Option.some.inj h
          obtain ⟨L, hL, rfl⟩ := ha
          exact ⟨_, ⟨L, hL, rfl⟩, fun w => by simp [Instr.fieldAt, run_underlying hu, hfd', Instr.sureAddr, run_fieldPlace _ hz hz', add_zero_off, Nat.add_assoc]⟩
        · obtain rfl := Option.some.inj h
          obtain ⟨L, hL, hn, rfl⟩ := ha
          exact ⟨_, ⟨L, hL, hn, rfl⟩, fun w => by simp [Instr.fieldAt, run_underlying hu, hfd', Instr.sureAddr, run_fieldPlace _ hz hz', add_zero_off, Nat.add_assoc]⟩
        · obtain rfl := Option.some.inj h
          obtain ⟨L, hL, hj, hn, rfl⟩ := ha
          exact ⟨_, ⟨L, hL, hj, hn, rfl⟩, fun w => by simp [Instr.fieldAt, run_underlying hu, hfd', Instr.sureAddr, run_fieldPlace _ hz hz', add_zero_off, Nat.add_assoc]⟩
        · cases h
      · cases h
    · cases h
  · cases h

theorem run_fieldT {s : TypeId} {x tv : TV} {f : Nat} {a : Value} (h : fieldT P s x f = some tv) (ha : relT φ x a) : ∃ v, relT φ tv v ∧ ∀ w, (Instr.field s a f).run P w = .ok v w := by
  unfold fieldT at h
  split at h
  · rename_i fs hu
    split at h
    · rename_i fd hfd
      have hfd' : fs[f]? = some fd := by simpa using hfd
      split at h
      · obtain ⟨p, hp, rfl⟩ := Option.map_eq_some_iff.1 h
        obtain ⟨cs, rfl, hcs⟩ := ha
        obtain ⟨v, hv, hrun⟩ := run_part (P := P) hcs hp
        exact ⟨v, hv, fun w => by simp [Instr.field, run_underlying hu, hfd', asAgg, hrun]⟩
      · cases h
    · cases h
  · cases h

theorem within_spec {i : Int} {n : Nat} (h : within i n = true) : 0 ≤ i ∧ i < (n : Int) := by
  simpa [within] using h

theorem run_indexAddrT {y : Option Nat} {t : TypeId} {x ix tv : TV} {a b : Value} (h : (indexAddrT P y t x ix).val = some tv) (ha : relT φ x a) (hb : relT φ ix b) :
    ∃ v, relT φ tv v ∧ ∀ w, (Instr.indexAt t a b).run P w = .ok v w := by
  unfold indexAddrT at h
  split at h
  · rename_i k i
    simp only [relT, relA, relS] at hb
    subst hb
    split at h
    · rename_i len e hu
      split at h
      · rename_i n hn
        split at h
        · obtain ⟨hc, h⟩ := val_chk h
          obtain rfl := val_ok h
          obtain ⟨h0, h1⟩ := within_spec hc
          obtain ⟨L, hL, rfl⟩ := ha
          exact ⟨_, ⟨L, hL, rfl⟩, fun w => by simp [Instr.indexAt, run_underlying hu, asIntOf, Instr.sureAddr, h0, h1, run_size hn, add_zero_off, Nat.add_assoc]⟩
        · obtain ⟨hc, h⟩ := val_chk h
          obtain rfl := val_ok h
          obtain ⟨h0, h1⟩ := within_spec hc
          obtain ⟨L, hL, hnn, rfl⟩ := ha
          exact ⟨_, ⟨L, hL, hnn, rfl⟩, fun w => by simp [Instr.indexAt, run_underlying hu, asIntOf, Instr.sureAddr, h0, h1, run_size hn, add_zero_off, Nat.add_assoc]⟩
        · simp [Tr.val] at h
      · simp [Tr.val] at h
    · rename_i e hu
      split at h
      · rename_i n hn
        split at h
        · split at h
          · rename_i hwd
            subst hwd
            obtain ⟨hc, h⟩ := val_chk h
            obtain rfl := val_ok h
            obtain ⟨h0, h1⟩ := within_spec hc
            rcases ha with ⟨h2, _⟩ | ⟨L, cap, hL, hle, rfl⟩
            · omega
            · exact ⟨_, ⟨L, hL, rfl⟩, fun w => by simp [Instr.indexAt, run_underlying hu, asIntOf, h0, h1, run_size hn, add_zero_off, Nat.add_assoc]⟩
          · simp [Tr.val] at h
        · split at h
          · rename_i hwd
            subst hwd
            obtain ⟨hc, h⟩ := val_chk h
            obtain rfl := val_ok h
            obtain ⟨h0, h1⟩ := within_spec hc
            rcases ha with ⟨h2, _⟩ | ⟨L, cap, hL, hle, hcp, hnn, hsz, rfl⟩
            · omega
            · exact ⟨_, ⟨L, hL, by omega, rfl⟩, fun w => by simp [Instr.indexAt, run_underlying hu, asIntOf, h0, h1, run_size hn, add_zero_off, Nat.add_assoc, Nat.add_mul]⟩
          · simp [Tr.val] at h
        · split at h
          · rename_i hwd
            subst hwd
            obtain ⟨hc, h⟩ := val_chk h
            obtain rfl := val_ok h
            obtain ⟨h0, h1⟩ := within_spec hc
            rcases ha with ⟨h2, _⟩ | ⟨L, hL, hnn, hsz, rfl⟩
            · omega
            · exact ⟨_, ⟨L, hL, by omega, rfl⟩, fun w => by simp [Instr.indexAt, run_underlying hu, asIntOf, h0, h1, run_size hn, add_zero_off, Nat.add_assoc, Nat.add_mul]⟩
          · simp [Tr.val] at h
        · split at h
          · rename_i hwd
            subst hwd
            obtain ⟨hc, h⟩ := val_chk h
            obtain rfl := val_ok h
            obtain ⟨h0, h1⟩ := within_spec hc
            rcases ha with ⟨h2, _⟩ | ⟨L, cap, hL, hle, hnn, rfl⟩
            · omega
            · exact ⟨_, ⟨L, hL, by omega, rfl⟩, fun w => by simp [Instr.indexAt, run_underlying hu, asIntOf, h0, h1, run_size hn, add_zero_off, Nat.add_assoc, Nat.add_mul]⟩
          · simp [Tr.val] at h
        · split at h
          · rename_i hwd
            subst hwd
            obtain ⟨hc, h⟩ := val_chk h
            obtain rfl := val_ok h
            obtain ⟨h0, h1⟩ := within_spec hc
            obtain ⟨L, hL, hn', ha⟩ := ha
            rcases ha with ⟨h2, _⟩ | ⟨cap, hle, hsz, rfl⟩
            · omega
            · exact ⟨_, ⟨L, hL, by omega, rfl⟩, fun w => by simp [Instr.indexAt, run_underlying hu, asIntOf, h0, h1, run_size hn, add_zero_off]⟩
          · simp [Tr.val] at h
        · simp [Tr.val] at h
      · simp [Tr.val] at h
    · simp [Tr.val] at h
  · simp [Tr.val] at h

theorem run_indexT {y : Option Nat} {t : TypeId} {x ix tv : TV} {a b : Value} (h : (indexT P y t x ix).val = some tv) (ha : relT φ x a) (hb : relT φ ix b) :
    ∃ v, relT φ tv v ∧ ∀ w, (Instr.index t a b).run P w = .ok v w := by
  unfold indexT at h
  split at h
  · rename_i k i
    simp only [relT, relA, relS] at hb
    subst hb
    split at h
    · rename_i len e hu
      split at h
      · rename_i n hn
        split at h
        · obtain ⟨hc, h⟩ := val_chk h
          rw [val_opt] at h
          obtain ⟨p, hp, rfl⟩ := Option.map_eq_some_iff.1 h
          obtain ⟨h0, h1⟩ := within_spec hc
          obtain ⟨cs, rfl, hcs⟩ := ha
          obtain ⟨v, hv, hrun⟩ := run_part (P := P) hcs hp
          exact ⟨v, hv, fun w => by simp [Instr.index, run_underlying hu, asIntOf, h0, h1, run_size hn, hrun]⟩
        · simp [Tr.val] at h
      · simp [Tr.val] at h
    · simp [Tr.val] at h
  · simp [Tr.val] at h

/-! ### slices -/

/-! ### one of several equal parts -/

theorem asInt_mk {sk : SK} {a : AS} {x : Int} (h : asInt sk a = some x) : mkS sk x = a := by
  unfold asInt at h
  split at h
  · split at h
    · rename_i hk; subst hk; obtain rfl := Option.some.inj h; rfl
    · cases h
  · rename_i y
    obtain rfl := Option.some.inj h
    cases y <;> rfl
  · cases h

theorem colI_get {sk : SK} {l : List AS} {n : Nat} : ∀ {len o : Nat} {xs : List Int}, colI sk l n len o = some xs → xs.length = len ∧ ∀ j, j < len → l[o + j * n]? = some (mkS sk (xs.getD j 0))
  | 0, o, xs, h => by simp [colI] at h; subst h; exact ⟨rfl, fun j hj => by omega⟩
  | m + 1, o, xs, h => by
    simp only [colI] at h
    split at h
    · rename_i a ha
      split at h
      · rename_i x hx
        split at h
        · rename_i ys hys
          obtain rfl := Option.some.inj h
          obtain ⟨h1, h2⟩ := colI_get hys
          refine ⟨by simp [h1], fun j hj => ?_⟩
          cases j with
          | zero => simp only [Nat.zero_mul, Nat.add_zero, List.getD_cons_zero]; rw [asInt_mk hx]; exact ha
          | succ j =>
            rw [List.getD_cons_succ, ← h2 j (by omega)]
            congr 1
            rw [Nat.add_mul]; omega
        · cases h
      · cases h
    · cases h

theorem selS_get {l : List AS} {o n len j : Nat} {a : AS} (h : selS l o n len j = some a) (hj : j < len) : l[o + j * n]? = some a := by
  unfold selS at h
  split at h
  · split at h
    · split at h
      · rename_i xs hxs
        obtain rfl := Option.some.inj h
        exact (colI_get hxs).2 j hj
      · cases h
    · cases h
  · cases h

theorem selSs_get {l : List AS} {n len j : Nat} (hj : j < len) : ∀ {m o : Nat} {r : List AS}, selSs l n len j m o = some r → r = (l.drop (o + j * n)).take m ∧ (m ≠ 0 → o + j * n + m ≤ l.length)
  | 0, o, r, h => by simp [selSs] at h; subst h; simp
  | m + 1, o, r, h => by
    simp only [selSs] at h
    split at h
    · rename_i a ha
      split at h
      · rename_i r' hr
        obtain rfl := Option.some.inj h
        have e1 := selS_get ha hj
        obtain ⟨e2, e3⟩ := selSs_get hj hr
        have hlt : o + j * n < l.length := (List.getElem?_eq_some_iff.1 e1).1
        refine ⟨?_, fun _ => ?_⟩
        · rw [List.drop_eq_getElem_cons hlt, List.take_succ_cons]
          have : l[o + j * n] = a := by rw [List.getElem?_eq_getElem hlt] at e1; exact Option.some.inj e1
          rw [this, e2, show o + 1 + j * n = o + j * n + 1 by omega]
        · rcases Nat.eq_zero_or_pos m with h0 | h0
          · omega
          · have := e3 (by omega); omega
      · cases h
    · cases h

theorem colI_set {sk : SK} {n : Nat} (a : AS) (p : Nat) : ∀ {len o : Nat} {l : List AS}, p < o → colI sk (l.set p a) n len o = colI sk l n len o
  | 0, _, _, _ => rfl
  | m + 1, o, l, hp => by
    simp only [colI]
    rw [List.getElem?_set_ne (by omega), colI_set a p (by omega)]

theorem set_same {l : List AS} {o : Nat} {a : AS} (h : l[o]? = some a) : l.set o a = l := by
  obtain ⟨hlt, rfl⟩ := List.getElem?_eq_some_iff.1 h
  exact List.set_getElem_self hlt

theorem putCol_eq {sk : SK} {n j : Nat} {x : Int} (hn : n ≠ 0) : ∀ {xs : List Int} {j' o : Nat} {l : List AS}, colI sk l n xs.length o = some xs →
    putCol sk n j x xs j' o l = if j' ≤ j ∧ j < j' + xs.length then l.set (o + (j - j') * n) (mkS sk x) else l
  | [], j', o, l, _ => by simp only [putCol, List.length_nil]; rw [if_neg (by omega)]
  | y :: ys, j', o, l, h => by
    simp only [colI, List.length_cons] at h
    split at h
    · rename_i a ha
      split at h
      · rename_i x' hx
        split at h
        · rename_i ys' hys
          obtain ⟨rfl, rfl⟩ := List.cons.inj (Option.some.inj h)
          simp only [putCol]
          rw [putCol_eq hn (by rw [colI_set _ _ (by omega)]; exact hys)]
          by_cases e : j = j'
          · subst e
            simp only [List.length_cons]
            rw [if_neg (by omega), if_pos (by omega)]
            simp
          · have hb : Nat.beq j j' = false := by
              cases hb : Nat.beq j j' with
              | false => rfl
              | true => exact (e (Nat.eq_of_beq_eq_true hb)).elim
            rw [hb, cond_false, asInt_mk hx, set_same ha]
            simp only [List.length_cons]
            by_cases hc : j' + 1 ≤ j ∧ j < j' + 1 + ys'.length
            · rw [if_pos hc, if_pos (by omega)]
              congr 1
              obtain ⟨k, rfl⟩ : ∃ k, j = j' + 1 + k := ⟨j - (j' + 1), by omega⟩
              rw [show j' + 1 + k - (j' + 1) = k by omega, show j' + 1 + k - j' = k + 1 by omega, Nat.add_mul]
              omega
            · rw [if_neg hc, if_neg (by omega)]
        · cases h
      · cases h
    · cases h

theorem setX_eq {l l' : List AS} {o n len j : Nat} {a : AS} (hn : n ≠ 0) (hj : j < len) (h : setX l o n len j a = some l') : l' = l.set (o + j * n) a ∧ o + j * n < l.length := by
  unfold setX at h
  split at h
  · split at h
    · rename_i sk _
      split at h
      · rename_i x hx
        split at h
        · rename_i xs hxs
          obtain rfl := Option.some.inj h
          obtain ⟨e1, e2⟩ := colI_get hxs
          have := e2 j hj
          refine ⟨?_, (List.getElem?_eq_some_iff.1 this).1⟩
          rw [putCol_eq hn (by rw [e1]; exact hxs), if_pos (by omega), asInt_mk hx]
          simp
        · cases h
      · cases h
    · cases h
  · cases h

theorem setAll_cons {l : List AS} {o : Nat} {a : AS} {as : List AS} (h : o < l.length) : setAll l o (a :: as) = setAll (l.set o a) (o + 1) as := by
  unfold setAll
  have e1 : (l.set o a).take (o + 1) = l.take o ++ [a] := by
    rw [List.take_add_one, List.take_set_of_le (Nat.le_refl o)]
    simp [h]
  have e2 : (l.set o a).drop (o + 1 + as.length) = l.drop (o + (a :: as).length) := by
    rw [List.drop_set_of_lt (by omega)]
    congr 1
    simp only [List.length_cons]; omega
  rw [e1, e2]
  simp

theorem setAll_nil {l : List AS} {o : Nat} (h : o ≤ l.length) : setAll l o [] = l := by simp [setAll]

theorem setXs_eq {n len j : Nat} (hn : n ≠ 0) (hj : j < len) : ∀ {vs : List AS} {o : Nat} {l l' : List AS}, setXs n len j vs o l = some l' → vs ≠ [] → l' = setAll l (o + j * n) vs ∧ o + j * n + vs.length ≤ l.length
  | [], _, _, _, _, h0 => (h0 rfl).elim
  | a :: as, o, l, l', h, _ => by
    simp only [setXs] at h
    split at h
    · rename_i l1 hl1
      obtain ⟨rfl, e2⟩ := setX_eq hn hj hl1
      rcases as with _ | ⟨b, bs⟩
      · simp only [setXs, Option.some.injEq] at h
        subst h
        refine ⟨?_, by simp; omega⟩
        rw [setAll_cons e2, setAll_nil (by simp; omega)]
      · obtain ⟨e3, e4⟩ := setXs_eq hn hj h (by simp)
        simp only [List.length_set] at e4
        refine ⟨?_, by simp only [List.length_cons] at e4 ⊢; omega⟩
        rw [e3, setAll_cons e2, show o + 1 + j * n = o + j * n + 1 by omega]
    · cases h

theorem run_indexAddrX {y : Option Nat} {t : TypeId} {x ix tv : TV} {a b : Value} (h : (indexAddrX P y t x ix).val = some tv) (ha : relT φ x a) (hb : relT φ ix b) :
    ∃ v, relT φ tv v ∧ ∀ w, (Instr.indexAt t a b).run P w = .ok v w := by
  unfold indexAddrX at h
  split at h
  · rename_i k i
    simp only [relT, relA, relS] at hb
    subst hb
    split at h
    · rename_i len e hu
      split at h
      · rename_i n hn
        split at h
        · split at h
          · simp [Tr.val] at h
          obtain ⟨hc, h⟩ := val_chk h
          obtain rfl := val_ok h
          obtain ⟨h0, h1⟩ := within_spec hc
          obtain ⟨L, hL, rfl⟩ := ha
          refine ⟨_, ⟨L, hL, by omega, .inl rfl, rfl⟩, fun w => by simp [Instr.indexAt, run_underlying hu, asIntOf, Instr.sureAddr, h0, h1, run_size hn, add_zero_off, Nat.add_assoc]⟩
        · split at h
          · simp [Tr.val] at h
          obtain ⟨hc, h⟩ := val_chk h
          obtain rfl := val_ok h
          obtain ⟨h0, h1⟩ := within_spec hc
          obtain ⟨L, hL, hnn, rfl⟩ := ha
          exact ⟨_, ⟨L, hL, by omega, .inr hnn, rfl⟩, fun w => by simp [Instr.indexAt, run_underlying hu, asIntOf, Instr.sureAddr, h0, h1, run_size hn, add_zero_off, Nat.add_assoc]⟩
        · simp [Tr.val] at h
      · simp [Tr.val] at h
    · rename_i e hu
      split at h
      · rename_i n hn
        split at h
        · split at h
          · rename_i hwd
            obtain ⟨rfl, hn0⟩ := hwd
            obtain ⟨hc, h⟩ := val_chk h
            obtain rfl := val_ok h
            obtain ⟨h0, h1⟩ := within_spec hc
            rcases ha with ⟨h2, _⟩ | ⟨L, cap, hL, hle, rfl⟩
            · omega
            · exact ⟨_, ⟨L, hL, by omega, .inl rfl, rfl⟩, fun w => by simp [Instr.indexAt, run_underlying hu, asIntOf, h0, h1, run_size hn, add_zero_off, Nat.add_assoc]⟩
          · simp [Tr.val] at h
        · simp [Tr.val] at h
      · simp [Tr.val] at h
    · simp [Tr.val] at h
  · simp [Tr.val] at h

theorem run_indexAddrS {y : Option Nat} {t : TypeId} {x ix tv : TV} {a b : Value} (h : (indexAddrS P y t x ix).val = some tv) (ha : relT φ x a) (hb : relT φ ix b) :
    ∃ v, relT φ tv v ∧ ∀ w, (Instr.indexAt t a b).run P w = .ok v w := by
  unfold indexAddrS at h
  split at h
  · exact run_indexAddrX h ha hb
  · exact run_indexAddrT h ha hb

theorem partX_part {e : TypeId} {l : List AS} {n len j : Nat} {a : AV} (hn : sizeT P e = some n) (hj : j < len) (h : partX P e l n len j = some a) : partA P e l (j * n) = some a := by
  unfold partX at h
  unfold partA
  split at h
  · rename_i hag
    obtain ⟨r, hr, rfl⟩ := Option.map_eq_some_iff.1 h
    obtain ⟨rfl, _⟩ := selSs_get hj hr
    simp only [hag, hn, Nat.zero_add]
  · rename_i hag
    obtain ⟨r, hr, rfl⟩ := Option.map_eq_some_iff.1 h
    have := selS_get hr hj
    rw [Nat.zero_add] at this
    simp only [hag, this, Option.map_some]
  · cases h

theorem run_indexX {y : Option Nat} {t : TypeId} {x ix tv : TV} {a b : Value} (h : (indexX P y t x ix).val = some tv) (ha : relT φ x a) (hb : relT φ ix b) :
    ∃ v, relT φ tv v ∧ ∀ w, (Instr.index t a b).run P w = .ok v w := by
  refine run_indexT (y := none) ?_ ha hb
  unfold indexX at h
  unfold indexT
  split at h
  · split at h
    · rename_i len e hu
      split at h
      · rename_i n hn
        split at h
        · obtain ⟨hc, h⟩ := val_chk h
          rw [val_opt] at h
          obtain ⟨p, hp, rfl⟩ := Option.map_eq_some_iff.1 h
          obtain ⟨h0, h1⟩ := within_spec hc
          have := partX_part hn (by omega) hp
          simp only [hu, hn, this, hc, chk, Option.map_some, opt, Tr.val]
        · simp [Tr.val] at h
      · simp [Tr.val] at h
    · simp [Tr.val] at h
  · simp [Tr.val] at h

theorem run_indexS {y : Option Nat} {t : TypeId} {x ix tv : TV} {a b : Value} (h : (indexS P y t x ix).val = some tv) (ha : relT φ x a) (hb : relT φ ix b) :
    ∃ v, relT φ tv v ∧ ∀ w, (Instr.index t a b).run P w = .ok v w := by
  unfold indexS at h
  split at h
  · exact run_indexX h ha hb
  · exact run_indexT h ha hb

theorem intT_rel {x : TV} {v : Value} {i : Int} (h : intT x = some i) (hx : relT φ x v) : ∃ k, v = .int k i := by
  unfold intT at h
  split at h
  · rename_i k j
    obtain rfl := Option.some.inj h
    exact ⟨k, hx⟩
  · cases h

theorem run_sliceBound_in {k : IntKind} {i : Int} {y : Nat} (code : BoundsCode) (h0 : 0 ≤ i) (h1 : i ≤ (y : Int)) (w : World) : (Instr.sliceBound (.int k i) y code).run P w = .ok i.toNat w := by
  simp [Instr.sliceBound, asIntOf, h0, h1]

theorem run_sliceBounds {lo hi mx : Option TV} {lo' hi' mx' : Option Value} {len cp cap : Nat} {l h m : Int} (isS : Bool) (hb : boundsT lo hi mx len cp = some (l, h, m)) (hok : boundsOk hi.isSome mx.isSome len cp l h m = true)
    (hlo : ∀ x, lo = some x → ∃ v, lo' = some v ∧ relT φ x v) (hhi : ∀ x, hi = some x → ∃ v, hi' = some v ∧ relT φ x v) (hmx : ∀ x, mx = some x → ∃ v, mx' = some v ∧ relT φ x v)
    (nlo : lo = none → lo' = none) (nhi : hi = none → hi' = none) (nmx : mx = none → mx' = none) (hl : len ≤ cp) (hc : cp ≤ cap) :
    ∃ m' : Nat, l.toNat ≤ h.toNat ∧ h.toNat ≤ m' ∧ m' ≤ cap ∧ h.toNat ≤ cp ∧ (mx = none → m' = cap) ∧ (mx ≠ none → m' = h.toNat) ∧ ∀ w, (Instr.sliceBounds isS len cap lo' hi' mx').run P w = .ok (l.toNat, h.toNat, m') w := by
  unfold boundsT at hb
  cases mx with
  | some xm =>
    obtain ⟨vm, rfl, rm⟩ := hmx xm rfl
    cases hi with
    | none => cases hm : intT xm <;> simp [hm] at hb
    | some xh =>
      obtain ⟨vh, rfl, rh⟩ := hhi xh rfl
      cases hm : intT xm with
      | none => simp [hm] at hb
      | some m0 =>
        cases hh : intT xh with
        | none => simp [hm, hh] at hb
        | some h' =>
          obtain ⟨km, rfl⟩ := intT_rel hm rm
          obtain ⟨kh, rfl⟩ := intT_rel hh rh
          cases lo with
          | none =>
            rw [nlo rfl]
            simp [hm, hh] at hb
            obtain ⟨rfl, rfl, rfl⟩ := hb
            simp [boundsOk] at hok
            obtain ⟨⟨h1, h2⟩, h3⟩ := hok
            subst h2
            refine ⟨m0.toNat, by omega, by omega, by omega, by omega, by simp, by simp, fun w => ?_⟩
            simp only [Instr.sliceBounds, Sem.run_bind, Sem.run_pure, Result.andThen_ok, run_sliceBound_in _ (show 0 ≤ m0 by omega) (show m0 ≤ (cap : Int) by omega), run_sliceBound_in _ (show 0 ≤ m0 by omega) (show m0 ≤ ((m0.toNat : Nat) : Int) by omega)]; rfl
          | some xl =>
            obtain ⟨vl, rfl, rl⟩ := hlo xl rfl
            cases hl : intT xl with
            | none => simp [hm, hh, hl] at hb
            | some l' =>
              obtain ⟨kl, rfl⟩ := intT_rel hl rl
              simp [hm, hh, hl] at hb
              obtain ⟨rfl, rfl, rfl⟩ := hb
              simp [boundsOk] at hok
              obtain ⟨⟨⟨h0, h1⟩, h2⟩, h3⟩ := hok
              subst h2
              refine ⟨m0.toNat, by omega, by omega, by omega, by omega, by simp, by simp, fun w => ?_⟩
              simp only [Instr.sliceBounds, Sem.run_bind, Sem.run_pure, Result.andThen_ok, run_sliceBound_in _ (show 0 ≤ m0 by omega) (show m0 ≤ (cap : Int) by omega), run_sliceBound_in _ (show 0 ≤ m0 by omega) (show m0 ≤ ((m0.toNat : Nat) : Int) by omega), run_sliceBound_in _ h0 (show l' ≤ ((m0.toNat : Nat) : Int) by omega)]
  | none =>
    rw [nmx rfl]
    cases hi with
    | none =>
      rw [nhi rfl]
      cases lo with
      | none =>
        rw [nlo rfl]
        simp at hb
        obtain ⟨rfl, rfl, rfl⟩ := hb
        refine ⟨cap, by omega, by omega, Nat.le_refl _, by omega, by simp, by simp, fun w => ?_⟩
        simp [Instr.sliceBounds]
      | some xl =>
        obtain ⟨vl, rfl, rl⟩ := hlo xl rfl
        cases hl : intT xl with
        | none => simp [hl] at hb
        | some l' =>
          obtain ⟨kl, rfl⟩ := intT_rel hl rl
          simp [hl] at hb
          obtain ⟨rfl, rfl, rfl⟩ := hb
          simp [boundsOk] at hok
          refine ⟨cap, by omega, by omega, Nat.le_refl _, by omega, by simp, by simp, fun w => ?_⟩
          simp only [Instr.sliceBounds, Sem.run_bind, Sem.run_pure, Result.andThen_ok, run_sliceBound_in _ hok.1 hok.2]
          rfl
    | some xh =>
      obtain ⟨vh, rfl, rh⟩ := hhi xh rfl
      cases hh : intT xh with
      | none => simp [hh] at hb
      | some h' =>
        obtain ⟨kh, rfl⟩ := intT_rel hh rh
        cases lo with
        | none =>
          rw [nlo rfl]
          simp [hh] at hb
          obtain ⟨rfl, rfl, rfl⟩ := hb
          simp [boundsOk] at hok
          obtain ⟨h1, h2⟩ := hok
          refine ⟨cap, by omega, by omega, Nat.le_refl _, by omega, by simp, by simp, fun w => ?_⟩
          simp only [Instr.sliceBounds, Sem.run_bind, Sem.run_pure, Result.andThen_ok, run_sliceBound_in _ h1 (show h' ≤ (cap : Int) by omega)]
          rfl
        | some xl =>
          obtain ⟨vl, rfl, rl⟩ := hlo xl rfl
          cases hl : intT xl with
          | none => simp [hh, hl] at hb
          | some l' =>
            obtain ⟨kl, rfl⟩ := intT_rel hl rl
            simp [hh, hl] at hb
            obtain ⟨rfl, rfl, rfl⟩ := hb
            simp [boundsOk] at hok
            obtain ⟨⟨h0, h1⟩, h2⟩ := hok
            refine ⟨cap, by omega, by omega, Nat.le_refl _, by omega, by simp, by simp, fun w => ?_⟩
            simp only [Instr.sliceBounds, Sem.run_bind, Sem.run_pure, Result.andThen_ok, run_sliceBound_in _ (show 0 ≤ h' by omega) (show h' ≤ (cap : Int) by omega), run_sliceBound_in _ h0 (show l' ≤ ((h'.toNat : Nat) : Int) by omega)]

theorem run_full3 {lo hi mx : Option TV} {lo' hi' mx' : Option Value} {len cap : Nat} {l h m : Int} (isS : Bool) (hb : full3 lo hi mx = some (l, h, m)) (hok : 0 ≤ l ∧ l ≤ h ∧ h ≤ m ∧ m ≤ (len : Int))
    (hlo : ∀ x, lo = some x → ∃ v, lo' = some v ∧ relT φ x v) (hhi : ∀ x, hi = some x → ∃ v, hi' = some v ∧ relT φ x v) (hmx : ∀ x, mx = some x → ∃ v, mx' = some v ∧ relT φ x v) (hc : len ≤ cap) :
    ∀ w, (Instr.sliceBounds isS len cap lo' hi' mx').run P w = .ok (l.toNat, h.toNat, m.toNat) w := by
  obtain ⟨c0, c1, c2, c3⟩ := hok
  cases lo with
  | none => simp [full3] at hb
  | some xl =>
    cases hi with
    | none => simp [full3] at hb
    | some xh =>
      cases mx with
      | none => simp [full3] at hb
      | some xm =>
        obtain ⟨vl, rfl, rl⟩ := hlo xl rfl
        obtain ⟨vh, rfl, rh⟩ := hhi xh rfl
        obtain ⟨vm, rfl, rm⟩ := hmx xm rfl
        cases e1 : intT xl with
        | none => simp [full3, e1] at hb
        | some l' =>
          cases e2 : intT xh with
          | none => simp [full3, e1, e2] at hb
          | some h' =>
            cases e3 : intT xm with
            | none => simp [full3, e1, e2, e3] at hb
            | some m' =>
              obtain ⟨kl, rfl⟩ := intT_rel e1 rl
              obtain ⟨kh, rfl⟩ := intT_rel e2 rh
              obtain ⟨km, rfl⟩ := intT_rel e3 rm
              simp [full3, e1, e2, e3] at hb
              obtain ⟨rfl, rfl, rfl⟩ := hb
              intro w
              simp only [Instr.sliceBounds, Sem.run_bind, Sem.run_pure, Result.andThen_ok, run_sliceBound_in _ (show 0 ≤ m' by omega) (show m' ≤ (cap : Int) by omega), run_sliceBound_in _ (show 0 ≤ h' by omega) (show h' ≤ ((m'.toNat : Nat) : Int) by omega), run_sliceBound_in _ c0 (show l' ≤ ((h'.toNat : Nat) : Int) by omega)]

theorem map_some {α β : Type} {f : α → β} {o : Option α} {x : α} {R : β → Prop} (h : o = some x) (hr : R (f x)) : ∃ v, o.map f = some v ∧ R v := by
  subst h; exact ⟨_, rfl, hr⟩

theorem run_sliceT {y : Option Nat} {t : TypeId} {x tv : TV} {lo hi mx : Option Operand} {ρ : Operand → TV} {e : Operand → Value} (hρ : ∀ x, relT φ (ρ x) (e x)) {a : Value}
    (h : (sliceT P y t x (lo.map ρ) (hi.map ρ) (mx.map ρ)).val = some tv) (ha : relT φ x a) : ∃ v, relT φ tv v ∧ ∀ w, (Instr.sliceAt t a (lo.map e) (hi.map e) (mx.map e)).run P w = .ok v w := by
  have hb : ∀ {len cp cap : Nat} {l h m : Int} (isS : Bool), boundsT (lo.map ρ) (hi.map ρ) (mx.map ρ) len cp = some (l, h, m) → boundsOk (hi.map ρ).isSome (mx.map ρ).isSome len cp l h m = true → len ≤ cp → cp ≤ cap →
      ∃ m' : Nat, l.toNat ≤ h.toNat ∧ h.toNat ≤ m' ∧ m' ≤ cap ∧ h.toNat ≤ cp ∧ (mx.map ρ = none → m' = cap) ∧ (mx.map ρ ≠ none → m' = h.toNat) ∧ ∀ w, (Instr.sliceBounds isS len cap (lo.map e) (hi.map e) (mx.map e)).run P w = .ok (l.toNat, h.toNat, m') w := by
    intro len cp cap l h m isS h1 h2 h3 h4
    have g : ∀ (o : Option Operand) (x : TV), o.map ρ = some x → ∃ v, o.map e = some v ∧ relT φ x v := by
      intro o x hx
      obtain ⟨z, rfl, rfl⟩ := Option.map_eq_some_iff.1 hx
      exact ⟨_, rfl, hρ z⟩
    have g' : ∀ (o : Option Operand), o.map ρ = none → o.map e = none := by
      intro o hx
      have := Option.map_eq_none_iff.1 hx
      subst this; rfl
    exact run_sliceBounds isS h1 h2 (g lo) (g hi) (g mx) (g' lo) (g' hi) (g' mx) h3 h4
  have hb3 : ∀ {len cap : Nat} {l h m : Int} (isS : Bool), full3 (lo.map ρ) (hi.map ρ) (mx.map ρ) = some (l, h, m) → (0 ≤ l ∧ l ≤ h ∧ h ≤ m ∧ m ≤ (len : Int)) → len ≤ cap → ∀ w, (Instr.sliceBounds isS len cap (lo.map e) (hi.map e) (mx.map e)).run P w = .ok (l.toNat, h.toNat, m.toNat) w := by
    intro len cap l h m isS h1 h2 h3
    have g : ∀ (o : Option Operand) (x : TV), o.map ρ = some x → ∃ v, o.map e = some v ∧ relT φ x v := by
      intro o x hx
      obtain ⟨z, rfl, rfl⟩ := Option.map_eq_some_iff.1 hx
      exact ⟨_, rfl, hρ z⟩
    exact run_full3 isS h1 h2 (g lo) (g hi) (g mx) h3
  generalize hmx : mx.map ρ = mxT at h hb hb3
  unfold sliceT at h
  split at h
  · rename_i n el hu
    split at h
    · rename_i wd hwd
      split at h
      · rename_i id o l hh m hbd
        obtain ⟨hc, h⟩ := val_chk h
        obtain rfl := val_ok h
        obtain ⟨L, hL, rfl⟩ := ha
        obtain ⟨m', h0, h1, h2, h3, h4, h5, hrun⟩ := hb false hbd hc (Nat.le_refl n) (Nat.le_refl n)
        by_cases e1 : m' = l.toNat
        · refine ⟨.slice (some ⟨L.b, L.base + o, none⟩) 0 0, .inl ⟨by omega, _, rfl⟩, fun w => ?_⟩
          simp [Instr.sliceAt, run_underlying hu, Instr.sureAddr, hrun, run_size hwd, e1]
          omega
        · refine ⟨.slice (some ⟨L.b, L.base + (o + l.toNat * wd), none⟩) (hh.toNat - l.toNat) (m' - l.toNat), .inr ⟨L, m' - l.toNat, hL, by omega, rfl⟩, fun w => ?_⟩
          simp [Instr.sliceAt, run_underlying hu, Instr.sureAddr, hrun, run_size hwd, e1, add_zero_off, Nat.add_assoc]
      · simp [Tr.val] at h
    · simp [Tr.val] at h
  · rename_i el hu
    split at h
    · rename_i wd hwd
      split at h
      · rename_i id wd' o len
        split at h
        · rename_i l hh m hbd
          split at h
          · rename_i hw
            subst hw
            obtain ⟨hc, h⟩ := val_chk h
            obtain rfl := val_ok h
            rcases ha with ⟨h2, a0, rfl⟩ | ⟨L, cap, hL, hle, rfl⟩
            · subst h2
              obtain ⟨m', h0, h1, h2', h3, h4, h5, hrun⟩ := hb true hbd hc (Nat.le_refl 0) (Nat.le_refl 0)
              refine ⟨.slice a0 0 0, .inl ⟨by omega, a0, rfl⟩, fun w => ?_⟩
              have e1 : m' = l.toNat := by omega
              simp [Instr.sliceAt, Instr.slice, run_underlying hu, hrun, run_size hwd, e1]
              omega
            · obtain ⟨m', h0, h1, h2', h3, h4, h5, hrun⟩ := hb true hbd hc (Nat.le_refl _) hle
              by_cases e1 : m' = l.toNat
              · refine ⟨.slice (some ⟨L.b, L.base + o, none⟩) 0 0, .inl ⟨by omega, _, rfl⟩, fun w => ?_⟩
                simp [Instr.sliceAt, Instr.slice, run_underlying hu, hrun, run_size hwd, e1]
                omega
              · refine ⟨.slice (some ⟨L.b, L.base + (o + l.toNat * wd), none⟩) (hh.toNat - l.toNat) (m' - l.toNat), .inr ⟨L, m' - l.toNat, hL, by omega, rfl⟩, fun w => ?_⟩
                simp [Instr.sliceAt, Instr.slice, run_underlying hu, hrun, run_size hwd, e1, add_zero_off, Nat.add_assoc]
          · simp [Tr.val] at h
        · simp [Tr.val] at h
      · rename_i id wd' r len cp
        split at h
        · rename_i l hh m hbd
          split at h
          · rename_i hw
            subst hw
            obtain ⟨hc, h⟩ := val_chk h
            obtain rfl := val_ok h
            rcases ha with ⟨h2, h2c, a0, rfl⟩ | ⟨L, cap, hL, hle, hcp, hnn, hsz, rfl⟩
            · subst h2; subst h2c
              obtain ⟨m', h0, h1, h2', h3, h4, h5, hrun⟩ := hb true hbd hc (Nat.le_refl 0) (Nat.le_refl 0)
              refine ⟨.slice a0 0 0, ?_, fun w => ?_⟩
              · cases mxT with
                | none => exact .inl ⟨by omega, by omega, a0, rfl⟩
                | some _ => exact .inl ⟨by omega, a0, rfl⟩
              · have e1 : m' = l.toNat := by omega
                simp [Instr.sliceAt, Instr.slice, run_underlying hu, hrun, run_size hwd, e1]
                omega
            · obtain ⟨m', h0, h1, h2', h3, h4, h5, hrun⟩ := hb true hbd hc hle hcp
              by_cases e1 : m' = l.toNat
              · refine ⟨.slice (some ⟨L.b, L.base + r * wd, none⟩) 0 0, ?_, fun w => ?_⟩
                · cases mxT with
                  | none => exact .inl ⟨by omega, by have := h4 rfl; omega, _, rfl⟩
                  | some _ => exact .inl ⟨by omega, _, rfl⟩
                · simp [Instr.sliceAt, Instr.slice, run_underlying hu, hrun, run_size hwd, e1]
                  omega
              · have hle2 : (r + l.toNat + (m' - l.toNat)) * wd ≤ (r + cap) * wd := Nat.mul_le_mul_right _ (by omega)
                refine ⟨.slice (some ⟨L.b, L.base + (r + l.toNat) * wd, none⟩) (hh.toNat - l.toNat) (m' - l.toNat), ?_, fun w => ?_⟩
                · cases mxT with
                  | none => exact .inr ⟨L, m' - l.toNat, hL, by omega, by have := h4 rfl; omega, by omega, by omega, rfl⟩
                  | some _ =>
                    have := h5 (by simp)
                    exact .inr ⟨L, hL, by omega, by rw [← this]; omega, by rw [this]⟩
                · simp [Instr.sliceAt, Instr.slice, run_underlying hu, hrun, run_size hwd, e1, add_zero_off, Nat.add_assoc, Nat.add_mul]
          · simp [Tr.val] at h
        · simp [Tr.val] at h
      · rename_i id wd' len
        have ha := slr_of_slw ha
        split at h
        · rename_i l hh m hbd
          split at h
          · rename_i hw
            subst hw
            obtain ⟨hc, h⟩ := val_chk h
            obtain rfl := val_ok h
            simp only [Bool.and_eq_true, decide_eq_true_eq] at hc
            obtain ⟨⟨⟨c0, c1⟩, c2⟩, c3⟩ := hc
            rcases ha with ⟨h2, h2c, a0, rfl⟩ | ⟨L, cap, hL, hle, hcp, hnn, hsz, rfl⟩
            · subst h2
              have hrun := hb3 true hbd ⟨c0, c1, c2, c3⟩ (Nat.le_refl 0)
              refine ⟨.slice a0 0 0, .inl ⟨by omega, by omega, a0, rfl⟩, fun w => ?_⟩
              have e1 : m.toNat = l.toNat := by omega
              simp [Instr.sliceAt, Instr.slice, run_underlying hu, hrun, run_size hwd, e1]
              omega
            · have hrun := hb3 true hbd ⟨c0, c1, c2, c3⟩ hcp
              by_cases e1 : m.toNat = l.toNat
              · refine ⟨.slice (some ⟨L.b, L.base + 0 * wd, none⟩) 0 0, .inl ⟨by omega, by omega, _, rfl⟩, fun w => ?_⟩
                simp [Instr.sliceAt, Instr.slice, run_underlying hu, hrun, run_size hwd, e1]
                omega
              · have hle2 : (0 + l.toNat + (m.toNat - l.toNat)) * wd ≤ (0 + cap) * wd := Nat.mul_le_mul_right _ (by omega)
                refine ⟨.slice (some ⟨L.b, L.base + (0 + l.toNat) * wd, none⟩) (hh.toNat - l.toNat) (m.toNat - l.toNat), .inr ⟨L, m.toNat - l.toNat, hL, by omega, by omega, by omega, by omega, rfl⟩, fun w => ?_⟩
                simp [Instr.sliceAt, Instr.slice, run_underlying hu, hrun, run_size hwd, e1, add_zero_off, Nat.add_assoc, Nat.add_mul]
          · simp [Tr.val] at h
        · split at h
          · rename_i l hh m hbd
            split at h
            · rename_i hw
              subst hw
              obtain ⟨hc, h⟩ := val_chk h
              obtain rfl := val_ok h
              rcases ha with ⟨h2, h2c, a0, rfl⟩ | ⟨L, cap, hL, hle, hcp, hnn, hsz, rfl⟩
              · subst h2
                obtain ⟨m', h0, h1, h2', h3, h4, h5, hrun⟩ := hb true hbd hc (Nat.le_refl 0) (Nat.le_refl 0)
                refine ⟨.slice a0 0 0, ?_, fun w => ?_⟩
                · cases mxT with
                  | none => exact .inl ⟨by omega, by omega, a0, rfl⟩
                  | some _ => exact .inl ⟨by omega, a0, rfl⟩
                · have e1 : m' = l.toNat := by omega
                  simp [Instr.sliceAt, Instr.slice, run_underlying hu, hrun, run_size hwd, e1]
                  omega
              · obtain ⟨m', h0, h1, h2', h3, h4, h5, hrun⟩ := hb true hbd hc hle hcp
                by_cases e1 : m' = l.toNat
                · refine ⟨.slice (some ⟨L.b, L.base + 0 * wd, none⟩) 0 0, ?_, fun w => ?_⟩
                  · cases mxT with
                    | none => exact .inl ⟨by omega, by have := h4 rfl; omega, _, rfl⟩
                    | some _ => exact .inl ⟨by omega, _, rfl⟩
                  · simp [Instr.sliceAt, Instr.slice, run_underlying hu, hrun, run_size hwd, e1]
                    omega
                · have hle2 : (0 + l.toNat + (m' - l.toNat)) * wd ≤ (0 + cap) * wd := Nat.mul_le_mul_right _ (by omega)
                  refine ⟨.slice (some ⟨L.b, L.base + (0 + l.toNat) * wd, none⟩) (hh.toNat - l.toNat) (m' - l.toNat), ?_, fun w => ?_⟩
                  · cases mxT with
                    | none => exact .inr ⟨L, m' - l.toNat, hL, by omega, by have := h4 rfl; omega, by omega, by omega, rfl⟩
                    | some _ =>
                      have := h5 (by simp)
                      exact .inr ⟨L, hL, by omega, by rw [← this]; omega, by rw [this]⟩
                  · simp [Instr.sliceAt, Instr.slice, run_underlying hu, hrun, run_size hwd, e1, add_zero_off, Nat.add_assoc, Nat.add_mul]
            · simp [Tr.val] at h
          · simp [Tr.val] at h
      · rename_i id wd' r len
        split at h
        · rename_i l hh m hbd
          split at h
          · rename_i hw
            subst hw
            obtain ⟨hc, h⟩ := val_chk h
            obtain rfl := val_ok h
            rcases ha with ⟨h2, a0, rfl⟩ | ⟨L, hL, hnn, hsz, rfl⟩
            · subst h2
              obtain ⟨m', h0, h1, h2', h3, h4, h5, hrun⟩ := hb true hbd hc (Nat.le_refl 0) (Nat.le_refl 0)
              refine ⟨.slice a0 0 0, ?_, fun w => ?_⟩
              · cases mxT with
                | none => exact .inl ⟨by omega, by omega, a0, rfl⟩
                | some _ => exact .inl ⟨by omega, a0, rfl⟩
              · have e1 : m' = l.toNat := by omega
                simp [Instr.sliceAt, Instr.slice, run_underlying hu, hrun, run_size hwd, e1]
                omega
            · obtain ⟨m', h0, h1, h2', h3, h4, h5, hrun⟩ := hb true hbd hc (Nat.le_refl _) (Nat.le_refl _)
              by_cases e1 : m' = l.toNat
              · refine ⟨.slice (some ⟨L.b, L.base + r * wd, none⟩) 0 0, ?_, fun w => ?_⟩
                · cases mxT with
                  | none => exact .inl ⟨by omega, by have := h4 rfl; omega, _, rfl⟩
                  | some _ => exact .inl ⟨by omega, _, rfl⟩
                · simp [Instr.sliceAt, Instr.slice, run_underlying hu, hrun, run_size hwd, e1]
                  omega
              · have hle2 : (r + l.toNat + (m' - l.toNat)) * wd ≤ (r + len) * wd := Nat.mul_le_mul_right _ (by omega)
                refine ⟨.slice (some ⟨L.b, L.base + (r + l.toNat) * wd, none⟩) (hh.toNat - l.toNat) (m' - l.toNat), ?_, fun w => ?_⟩
                · cases mxT with
                  | none => exact .inr ⟨L, m' - l.toNat, hL, by omega, by have := h4 rfl; omega, by omega, by omega, rfl⟩
                  | some _ =>
                    have := h5 (by simp)
                    exact .inr ⟨L, hL, by omega, by rw [← this]; omega, by rw [this]⟩
                · simp [Instr.sliceAt, Instr.slice, run_underlying hu, hrun, run_size hwd, e1, add_zero_off, Nat.add_assoc, Nat.add_mul]
          · simp [Tr.val] at h
        · simp [Tr.val] at h
      · rename_i id wd' len cp
        split at h
        · rename_i l hh m hbd
          split at h
          · rename_i hw
            subst hw
            obtain ⟨hc, h⟩ := val_chk h
            obtain rfl := val_ok h
            simp only [Bool.and_eq_true, decide_eq_true_eq] at hc
            obtain ⟨hc, hlen⟩ := hc
            obtain ⟨L, hL, hLn, hncp, ha⟩ := ha
            rcases ha with ⟨h2, a0, rfl⟩ | ⟨cap, hle, hsz, rfl⟩
            · have hl0 : len = 0 := by omega
              subst hl0; subst h2
              obtain ⟨m', h0, h1, h2', h3, h4, h5, hrun⟩ := hb true hbd hc (Nat.le_refl 0) (Nat.le_refl 0)
              refine ⟨.slice a0 0 0, ⟨L, hL, .inl ⟨by omega, a0, rfl⟩⟩, fun w => ?_⟩
              have e1 : m' = l.toNat := by omega
              simp [Instr.sliceAt, Instr.slice, run_underlying hu, hrun, run_size hwd, e1]
              omega
            · obtain ⟨m', h0, h1, h2', h3, h4, h5, hrun⟩ := hb true hbd hc hncp hle
              by_cases e1 : m' = l.toNat
              · refine ⟨.slice (some ⟨L.b, L.base, none⟩) 0 0, ⟨L, hL, .inl ⟨by omega, _, rfl⟩⟩, fun w => ?_⟩
                simp [Instr.sliceAt, Instr.slice, run_underlying hu, hrun, run_size hwd, e1]
                omega
              · have hle2 : (l.toNat + (m' - l.toNat)) * wd ≤ cap * wd := Nat.mul_le_mul_right _ (by omega)
                refine ⟨.slice (some ⟨L.b, L.base + l.toNat * wd, none⟩) (hh.toNat - l.toNat) (m' - l.toNat), ⟨L, hL, .inr ⟨l.toNat, m' - l.toNat, by omega, by omega, by omega, rfl⟩⟩, fun w => ?_⟩
                simp [Instr.sliceAt, Instr.slice, run_underlying hu, hrun, run_size hwd, e1, add_zero_off]
          · simp [Tr.val] at h
        · simp [Tr.val] at h
      · rename_i id wd' r len
        split at h
        · rename_i l hh m hbd
          split at h
          · rename_i hw
            subst hw
            obtain ⟨hc, h⟩ := val_chk h
            obtain rfl := val_ok h
            rcases ha with ⟨h2, a0, rfl⟩ | ⟨L, cap, hL, hle, hnn, rfl⟩
            · subst h2
              obtain ⟨m', h0, h1, h2', h3, h4, h5, hrun⟩ := hb true hbd hc (Nat.le_refl 0) (Nat.le_refl 0)
              refine ⟨.slice a0 0 0, .inl ⟨by omega, a0, rfl⟩, fun w => ?_⟩
              have e1 : m' = l.toNat := by omega
              simp [Instr.sliceAt, Instr.slice, run_underlying hu, hrun, run_size hwd, e1]
              omega
            · obtain ⟨m', h0, h1, h2', h3, h4, h5, hrun⟩ := hb true hbd hc (Nat.le_refl _) hle
              by_cases e1 : m' = l.toNat
              · refine ⟨.slice (some ⟨L.b, L.base + r * wd, none⟩) 0 0, .inl ⟨by omega, _, rfl⟩, fun w => ?_⟩
                simp [Instr.sliceAt, Instr.slice, run_underlying hu, hrun, run_size hwd, e1]
                omega
              · refine ⟨.slice (some ⟨L.b, L.base + (r + l.toNat) * wd, none⟩) (hh.toNat - l.toNat) (m' - l.toNat), .inr ⟨L, m' - l.toNat, hL, by omega, by omega, rfl⟩, fun w => ?_⟩
                simp [Instr.sliceAt, Instr.slice, run_underlying hu, hrun, run_size hwd, e1, add_zero_off, Nat.add_assoc, Nat.add_mul]
          · simp [Tr.val] at h
        · simp [Tr.val] at h
      · simp [Tr.val] at h
    · simp [Tr.val] at h
  · simp [Tr.val] at h

/-! ### the rest -/

theorem run_arrPtrT {t : TypeId} {x tv : TV} {a : Value} (h : arrPtrT P t x = some tv) (ha : relT φ x a) : ∃ v, relT φ tv v ∧ ∀ w, (Instr.arrayAt t a).run P w = .ok v w := by
  unfold arrPtrT at h
  split at h
  · rename_i n e hu
    split at h
    · rename_i id wd o len
      split at h
      · rename_i m hle
        cases h
        have hle : m + 1 ≤ len := Nat.le_of_ble_eq_true hle
        rcases ha with ⟨h0, _⟩ | ⟨L, cap, hL, h1, rfl⟩
        · omega
        · refine ⟨_, ⟨L, hL, rfl⟩, fun w => ?_⟩
          have : ¬ len < m + 1 := by omega
          simp [Instr.arrayAt, run_underlying hu, this]
      · cases h
    · cases h
  · cases h

theorem run_extractT {x tv : TV} {i : Nat} {a : Value} (h : extractT x i = some tv) (ha : relT φ x a) : ∃ v, relT φ tv v ∧ ∀ w, (Instr.extract a i).run P w = .ok v w := by
  unfold extractT at h
  split at h
  · rename_i l
    obtain ⟨p, hp, rfl⟩ := Option.map_eq_some_iff.1 h
    obtain ⟨vs, rfl, hvs⟩ := ha
    obtain ⟨v, hv, hr⟩ := hvs.get hp
    have hv' : vs[i]? = some v := by simpa using hv
    exact ⟨v, hr, fun w => by simp [Instr.extract, hv']⟩
  · cases h

theorem run_convT {s d : TypeId} {x tv : TV} {a : Value} (h : convT P s d x = some tv) (ha : relT φ x a) : ∃ v, relT φ tv v ∧ ∀ w, (convert s d a).run P w = .ok v w := by
  unfold convT at h
  split at h
  · rename_i ds k k' n hs hd
    obtain rfl := Option.some.inj h
    simp only [relT, relA, relS] at ha
    subst ha
    exact ⟨_, rfl, fun w => by simp [convert, run_underlying hs, run_underlying hd, Conv.intToInt]⟩
  · rename_i ds l hs hd
    obtain rfl := Option.some.inj h
    obtain ⟨s, rfl, hs'⟩ := ha
    exact ⟨_, ⟨s, rfl, hs'⟩, fun w => by simp [convert, run_underlying hs, run_underlying hd]⟩
  · cases h

theorem run_lenT {t ty : TypeId} {x tv : TV} {a : Value} (h : lenT P t x = some tv) (ha : relT φ x a) : ∃ v, relT φ tv v ∧ ∀ w, (Builtin.len_ #[t] ty #[a]).run P w = .ok v w := by
  unfold lenT at h
  split at h
  · rename_i e hu
    split at h
    · obtain rfl := Option.some.inj h
      rcases ha with ⟨h2, a0, rfl⟩ | ⟨L, cap, hL, hle, rfl⟩
      · subst h2
        exact ⟨_, rfl, fun w => by simp [Builtin.len_, run_underlying hu, goInt]⟩
      · exact ⟨_, rfl, fun w => by simp [Builtin.len_, run_underlying hu, goInt]⟩
    · obtain rfl := Option.some.inj h
      rcases ha with ⟨h2, _, a0, rfl⟩ | ⟨L, cap, hL, hle, hcp, hnn, hsz, rfl⟩
      · subst h2
        exact ⟨_, rfl, fun w => by simp [Builtin.len_, run_underlying hu, goInt]⟩
      · exact ⟨_, rfl, fun w => by simp [Builtin.len_, run_underlying hu, goInt]⟩
    · obtain rfl := Option.some.inj h
      rcases ha with ⟨h2, a0, rfl⟩ | ⟨L, hL, hnn, hle, rfl⟩
      · subst h2
        exact ⟨_, rfl, fun w => by simp [Builtin.len_, run_underlying hu, goInt]⟩
      · exact ⟨_, rfl, fun w => by simp [Builtin.len_, run_underlying hu, goInt]⟩
    · obtain rfl := Option.some.inj h
      rcases ha with ⟨h2, a0, rfl⟩ | ⟨L, cap, hL, hle, hnn, rfl⟩
      · subst h2
        exact ⟨_, rfl, fun w => by simp [Builtin.len_, run_underlying hu, goInt]⟩
      · exact ⟨_, rfl, fun w => by simp [Builtin.len_, run_underlying hu, goInt]⟩
    · obtain rfl := Option.some.inj h
      obtain ⟨L, hL, hn', ha⟩ := ha
      rcases ha with ⟨h2, a0, rfl⟩ | ⟨cap, hle, hsz, rfl⟩
      · subst h2
        exact ⟨_, rfl, fun w => by simp [Builtin.len_, run_underlying hu, goInt]⟩
      · exact ⟨_, rfl, fun w => by simp [Builtin.len_, run_underlying hu, goInt]⟩
    · obtain rfl := Option.some.inj h
      obtain ⟨L, hL, hn', hcp, ha⟩ := ha
      rcases ha with ⟨h2, a0, rfl⟩ | ⟨cap, hle, hsz, rfl⟩
      · rename_i n _
        obtain rfl : n = 0 := by omega
        exact ⟨_, rfl, fun w => by simp [Builtin.len_, run_underlying hu, goInt]⟩
      · exact ⟨_, rfl, fun w => by simp [Builtin.len_, run_underlying hu, goInt]⟩
    · obtain rfl := Option.some.inj h
      simp only [relT, relA, relS] at ha
      subst ha
      exact ⟨_, rfl, fun w => by simp [Builtin.len_, run_underlying hu, goInt]⟩
    · cases h
  · rename_i n e hu
    obtain rfl := Option.some.inj h
    exact ⟨_, rfl, fun w => by simp [Builtin.len_, run_underlying hu, goInt]⟩
  · cases h

theorem run_minT : ∀ {xs : List TV} {vs : List Value} {x tv : TV} {a : Value}, minT false x xs = some tv → relT φ x a → All2 (relT φ) xs vs → ∃ v, relT φ tv v ∧ ∀ w, (vs.foldlM Builtin.min2 a).run P w = .ok v w
  | [], [], x, tv, a, h, ha, _ => by
    have : x = tv := by unfold minT at h; simpa using h
    subst this
    exact ⟨a, ha, fun w => by simp⟩
  | y :: xs, b :: vs, x, tv, a, h, ha, hb => by
    obtain ⟨hb, hr⟩ := hb
    unfold minT at h
    split at h
    · rename_i heq; cases heq
    · rename_i k m k' n rest heq
      cases heq
      simp only [relT, relA, relS] at ha hb
      subst ha; subst hb
      obtain ⟨v, hv, hrun⟩ := run_minT (a := .int k (if n < m then n else m)) h rfl hr
      exact ⟨v, hv, fun w => by simp only [List.foldlM_cons, Builtin.min2, Sem.run_bind, Sem.run_pure, Result.andThen_ok]; exact hrun w⟩
    · cases h
  | [], _ :: _, _, _, _, _, _, hb => hb.elim
  | _ :: _, [], _, _, _, _, _, hb => hb.elim

theorem run_maxT : ∀ {xs : List TV} {vs : List Value} {x tv : TV} {a : Value}, minT true x xs = some tv → relT φ x a → All2 (relT φ) xs vs → ∃ v, relT φ tv v ∧ ∀ w, (vs.foldlM Builtin.max2 a).run P w = .ok v w
  | [], [], x, tv, a, h, ha, _ => by
    have : x = tv := by unfold minT at h; simpa using h
    subst this
    exact ⟨a, ha, fun w => by simp⟩
  | y :: xs, b :: vs, x, tv, a, h, ha, hb => by
    obtain ⟨hb, hr⟩ := hb
    unfold minT at h
    split at h
    · rename_i heq; cases heq
    · rename_i k m k' n rest heq
      cases heq
      simp only [relT, relA, relS] at ha hb
      subst ha; subst hb
      obtain ⟨v, hv, hrun⟩ := run_maxT (a := .int k (if n > m then n else m)) h rfl hr
      exact ⟨v, hv, fun w => by simp only [List.foldlM_cons, Builtin.max2, Sem.run_bind, Sem.run_pure, Result.andThen_ok]; exact hrun w⟩
    · cases h
  | [], _ :: _, _, _, _, _, _, hb => hb.elim
  | _ :: _, [], _, _, _, _, _, hb => hb.elim

theorem capsT_rel {ρ : Operand → TV} {e : Operand → Value} (hρ : ∀ x, relT φ (ρ x) (e x)) : ∀ {xs : List Operand} {l : List (Nat × Nat)}, capsT ρ xs = some l →
    All2 (fun (c : Nat × Nat) u => ∃ L, φ[c.1]? = some L ∧ u = .pointer (some ⟨L.b, L.base + c.2, none⟩)) l (xs.map e)
  | [], l, h => by simp [capsT] at h; subst h; trivial
  | x :: xs, l, h => by
    simp only [capsT] at h
    have hx := hρ x
    split at h
    · rename_i id o heq
      rw [heq] at hx
      split at h
      · rename_i r hr
        obtain rfl := Option.some.inj h
        exact ⟨hx, capsT_rel hρ hr⟩
      · cases h
    · cases h

end
end Go.AM
end

/-
  The abstract machine, part 5: one operation, whichever: what it does is what the abstract one says.
-/
section
namespace Go.AM

/-- What an operation comes to: a value and a later memory; or a call that comes to it. -/
def Does (P : Program) (φ : Phi) (H : AH) (w : World) (r : Result Next) (tv : TV) (H' : AH) : Prop :=
  (∃ v w' φ', (r = .ok (.value v) w' ∨ (r = .ok .skip w' ∧ v = undef)) ∧ relT φ' tv v ∧ Rep φ' H' w'.heap ∧ Ext φ H w φ' H' w') ∨
  (∃ f args, r = .ok (.enter f args) w ∧ Calls P f args w fun e w' => ∃ v φ', e = .returned v ∧ relT φ' tv v ∧ Rep φ' H' w'.heap ∧ Ext φ H w φ' H' w')

/-- What only reads reads the same where a block more stands behind. -/
def MonoS : Spec → Prop
  | .read F => ∀ targs H tv B, (F targs H).val = some tv → (F targs (H ++ [B])).val = some tv
  | _ => True

/-- A specification holds of a function. -/
def SpecF (P : Program) (f : FuncId) (s : Spec) : Prop :=
  s = .none ∨ ((∃ fn, P.funcs[f]? = some fn ∧ (fn.name == "runtime.NumGoroutine") = false ∧ fn.body.isNone = false) ∧
    (∀ φ H w targs (args : List Value) tv H', (s.app targs H).val = some (tv, H') → Rep φ H w.heap → All2 (relT φ) targs args →
      Calls P f args.toArray w fun e w' => ∃ v φ', e = .returned v ∧ relT φ' tv v ∧ Rep φ' H' w'.heap ∧ Ext φ H w φ' H' w') ∧ MonoS s)

def SpecOK (P : Program) (Γ : Specs) : Prop := ∀ f, SpecF P f (Γ f)

section
variable {P : Program} {φ : Phi} {H : AH}

theorem blk_some {id : Nat} {B : Blk} (h : blk H id = some B) : H[id]? = some (some B) := by
  unfold blk at h
  cases hx : H[id]? with
  | none => simp [hx] at h
  | some x => simp [hx] at h; rw [h]

theorem blk_mono {id : Nat} {b : Blk} {B : Option Blk} (h : blk H id = some b) : blk (H ++ [B]) id = some b := by
  have h1 := blk_some h
  have hl : id < H.length := by
    rcases Nat.lt_or_ge id H.length with h2 | h2
    · exact h2
    · rw [List.getElem?_eq_none h2] at h1; cases h1
  unfold blk
  rw [List.getElem?_append_left hl, h1]
  rfl

theorem blkC_mono {id : Nat} {b : Blk} {B : Option Blk} (h : blkC H id = some b) : blkC (H ++ [B]) id = some b := by
  unfold blkC at h ⊢
  cases hb : blk H id with
  | none => rw [hb] at h; cases h
  | some x => rw [hb] at h; rw [blk_mono hb]; exact h

/-- Cells that may be read. -/
theorem rep_blkC {heap : Array Obj} {id : Nat} {B : Blk} (hrep : Rep φ H heap) (h : blkC H id = some B) : ∃ L, φ[id]? = some L ∧ RepB φ L heap B := by
  unfold blkC at h
  split at h
  · rename_i l hb
    obtain rfl := Option.some.inj h
    obtain ⟨L, h1, h2⟩ := hrep.blk _ _ (blk_some hb)
    exact ⟨L, h1, h2⟩
  · exact hrep.blk _ _ (blk_some h)

theorem blkC_rows {id : Nat} {ks : List SK} {n : Nat} {g : Nat → Nat → Int} {own : Bool} (h : blkC H id = some (.rows ks n g own)) : blk H id = some (.rows ks n g own) := by
  unfold blkC at h
  split at h
  · cases h
  · exact h

theorem Does.value {w : World} {r : Result Next} {tv : TV} {v : Value} (hr : r = .ok (.value v) w) (hv : relT φ tv v) (hrep : Rep φ H w.heap) : Does P φ H w r tv H :=
  .inl ⟨v, w, φ, .inl hr, hv, hrep, Ext.refl _ _ _⟩

/-! ### laying a new block -/

theorem get_push {id : Nat} {B B' : Blk} (hid : (H ++ [some B])[id]? = some (some B')) : (id < H.length ∧ H[id]? = some (some B')) ∨ (id = H.length ∧ B' = B) := by
  rcases Nat.lt_or_ge id H.length with h' | h'
  · left; rw [List.getElem?_append_left h'] at hid; exact ⟨h', hid⟩
  · right
    rw [List.getElem?_append_right h'] at hid
    have h0 : id - H.length = 0 := by
      rcases Nat.eq_zero_or_pos (id - H.length) with e | e
      · exact e
      · rw [List.getElem?_eq_none (by simp; omega)] at hid; cases hid
    rw [h0] at hid
    simp at hid
    exact ⟨by omega, hid.symm⟩

/-- One more block, that lies where no other one does, in a later memory in which the others are as they were. -/
theorem rep_more {heap heap' : Array Obj} {L : Loc} {B : Blk} (h : Rep φ H heap) (hsz : heap.size ≤ heap'.size) (old : ∀ b, b < heap.size → heap'[b]? = heap[b]?) (hb : ∀ b, B.foot L b → heap.size ≤ b)
    (hB : RepB (φ ++ [L]) L heap' B) :
    Rep (φ ++ [L]) (H ++ [some B]) heap' ∧ ExtH φ H heap (φ ++ [L]) (H ++ [some B]) heap' := by
  have hgetφ : ∀ (id : Nat), id < H.length → (φ ++ [L])[id]? = φ[id]? := fun id hlt => List.getElem?_append_left (by rw [h.len]; exact hlt)
  have hlast : (φ ++ [L])[H.length]? = some L := by rw [← h.len]; simp
  refine ⟨⟨by simp [h.len], ?_, ?_⟩, ⟨hsz, ⟨[L], rfl⟩, fun b hlt _ => old b hlt, ?_⟩⟩
  · intro id B' hid
    rcases get_push hid with ⟨hlt, hid'⟩ | ⟨rfl, rfl⟩
    · obtain ⟨L', h1, h2⟩ := h.blk id B' hid'
      exact ⟨L', by rw [hgetφ id hlt]; exact h1, (h2.mono [L]).of_heap fun b hf => old _ (h2.lt hf)⟩
    · exact ⟨L, hlast, hB⟩
  · intro id id' B1 B2 L1 L2 b h1 h2 h3 h4 hne hm z1 z2
    rcases get_push h1 with ⟨hlt, h1'⟩ | ⟨rfl, rfl⟩
    · rw [hgetφ id hlt] at h3
      obtain ⟨L1', e1, e2⟩ := h.blk id B1 h1'
      rw [h3] at e1; cases e1
      rcases get_push h2 with ⟨hlt', h2'⟩ | ⟨rfl, rfl⟩
      · rw [hgetφ id' hlt'] at h4
        exact h.apart id id' B1 B2 L1 L2 b h1' h2' h3 h4 hne hm z1 z2
      · rw [hlast] at h4; cases h4
        have := e2.lt z1; have := hb _ z2; omega
    · rw [hlast] at h3; cases h3
      rcases get_push h2 with ⟨hlt', h2'⟩ | ⟨rfl, rfl⟩
      · rw [hgetφ id' hlt'] at h4
        obtain ⟨L2', e1, e2⟩ := h.blk id' B2 h2'
        rw [h4] at e1; cases e1
        have := e2.lt z2; have := hb _ z1; omega
      · exact (hne rfl).elim
  · intro id B' L' b hid hL z
    rcases get_push hid with ⟨hlt, hid'⟩ | ⟨rfl, rfl⟩
    · rw [hgetφ id hlt] at hL
      exact .inr ⟨id, B', L', hid', hL, z, fun h => h⟩
    · rw [hlast] at hL; cases hL
      exact .inl (hb _ z)

theorem rep_push {heap : Array Obj} {o : Obj} {L : Loc} {B : Blk} (h : Rep φ H heap) (hb : ∀ b, B.foot L b → b = heap.size) (hB : RepB (φ ++ [L]) L (heap.push o) B) :
    Rep (φ ++ [L]) (H ++ [some B]) (heap.push o) ∧ ExtH φ H heap (φ ++ [L]) (H ++ [some B]) (heap.push o) :=
  rep_more h (by simp) (fun b hlt => by rw [Array.getElem?_push, if_neg (Nat.ne_of_lt hlt)]) (fun b z => Nat.le_of_eq (hb b z).symm) hB

theorem rep_alloc {w : World} {l : List AS} {cs : Array Value} (t : TypeId) (h : Rep φ H w.heap) (hl : All2 (relS φ) l cs.toList) :
    ∃ φ', relT φ' (allocA H l).1 (.pointer (some ⟨w.heap.size, 0, none⟩)) ∧ Rep φ' (allocA H l).2 (w.heap.push (.cells cs t)) ∧ ExtH φ H w.heap φ' (allocA H l).2 (w.heap.push (.cells cs t)) := by
  have hlast : (φ ++ [⟨w.heap.size, 0, l.length, 0, .nil⟩])[H.length]? = some (⟨w.heap.size, 0, l.length, 0, .nil⟩ : Loc) := by rw [← h.len]; simp
  obtain ⟨h1, h2⟩ := rep_push (o := .cells cs t) (L := ⟨w.heap.size, 0, l.length, 0, .nil⟩) (B := .cells l) h (fun _ hf => hf.2.symm) ⟨rfl, rfl, .inr ⟨cs, t, by simp, hl.mono fun _ _ h => relS.mono _ h⟩⟩
  exact ⟨_, ⟨_, hlast, by simp⟩, h1, h2⟩

/-! ### turning a block -/

theorem get_set {id : Nat} {x : Option Blk} {j : Nat} {C : Blk} (hj : (H.set id x)[j]? = some (some C)) : (j = id ∧ x = some C) ∨ (j ≠ id ∧ H[j]? = some (some C)) := by
  rw [List.getElem?_set] at hj
  by_cases e : id = j
  · subst e
    simp only [if_true] at hj
    split at hj
    · exact .inl ⟨rfl, Option.some.inj hj⟩
    · cases hj
  · simp [e] at hj
    exact .inr ⟨fun e' => e e'.symm, hj⟩

theorem rep_set {heap heap' : Array Obj} {id : Nat} {B B' : Blk} {L : Loc} (h : Rep φ H heap) (hid : H[id]? = some (some B)) (hL : φ[id]? = some L) (hm : B.mut = true) (hf : ∀ b, B'.foot L b → B.foot L b)
    (hsz : heap.size ≤ heap'.size) (ho : ∀ b, ¬ B.foot L b → b < heap.size → heap'[b]? = heap[b]?) (hB : RepB φ L heap' B') :
    Rep φ (H.set id (some B')) heap' ∧ ExtH φ H heap φ (H.set id (some B')) heap' := by
  refine ⟨⟨by simp [h.len], ?_, ?_⟩, ⟨hsz, ⟨[], by simp⟩, ?_, ?_⟩⟩
  · intro j C hj
    rcases get_set hj with ⟨rfl, hC⟩ | ⟨hne, hj'⟩
    · cases hC; exact ⟨L, hL, hB⟩
    · obtain ⟨L', e1, e2⟩ := h.blk j C hj'
      refine ⟨L', e1, e2.of_heap fun b z => ho _ (fun z' => ?_) (e2.lt z)⟩
      exact h.apart id j B C L L' b hid hj' hL e1 (Ne.symm hne) hm z' z
  · intro j j' C C' L1 L2 b h1 h2 h3 h4 hne hmC z1 z2
    rcases get_set h1 with ⟨rfl, hC⟩ | ⟨hn1, h1'⟩
    · cases hC
      rcases get_set h2 with ⟨rfl, _⟩ | ⟨hn2, h2'⟩
      · exact (hne rfl).elim
      · rw [hL] at h3; cases h3
        exact h.apart _ _ B C' L L2 b hid h2' hL h4 hne hm (hf _ z1) z2
    · rcases get_set h2 with ⟨rfl, hC⟩ | ⟨hn2, h2'⟩
      · cases hC
        rw [hL] at h4; cases h4
        exact h.apart _ _ B C L L1 b hid h1' hL h3 (Ne.symm hne) hm (hf _ z2) z1
      · exact h.apart _ _ C C' L1 L2 b h1' h2' h3 h4 hne hmC z1 z2
  · intro b hb hn
    exact ho b (hn id B L hid hm hL) hb
  · intro j C L' b hj hL' z
    rcases get_set hj with ⟨rfl, hC⟩ | ⟨_, hj'⟩
    · cases hC
      rw [hL] at hL'; cases hL'
      exact .inr ⟨j, B, L, hid, hL, hf _ z, fun _ => hm⟩
    · exact .inr ⟨j, C, L', hj', hL', z, fun h => h⟩

/-- A block is let go. -/
theorem rep_drop {heap : Array Obj} (id : Nat) (h : Rep φ H heap) : Rep φ (H.set id none) heap ∧ ExtH φ H heap φ (H.set id none) heap := by
  have key : ∀ {j : Nat} {C : Blk}, (H.set id none)[j]? = some (some C) → H[j]? = some (some C) := by
    intro j C hj
    rcases get_set hj with ⟨_, hC⟩ | ⟨_, hj'⟩
    · cases hC
    · exact hj'
  exact ⟨⟨by simp [h.len], fun j C hj => h.blk j C (key hj), fun j j' C C' L1 L2 b h1 h2 => h.apart j j' C C' L1 L2 b (key h1) (key h2)⟩,
    ⟨Nat.le_refl _, ⟨[], by simp⟩, fun _ _ _ => rfl, fun j C L b hj hL z => .inr ⟨j, C, L, key hj, hL, z, fun h => h⟩⟩⟩

/-! ### loads -/

theorem run_loadVar_at {w : World} {t : TypeId} {b o n : Nat} {cs : Array Value} {ty : TypeId} {fr : Nat × Nat} (hg : w.heap[b]? = some (.cells cs ty fr)) (ha : aggT P t = some true) (hn : sizeT P t = some n) (ho : o + n ≤ cs.size) :
    (loadVar t ⟨b, o, none⟩).run P w = .ok (.agg ((cs.toList.drop o).take n).toArray) w := by
  have hlen : ((cs.toList.drop o).take n).length = n := by simp; omega
  have := run_loadCells_list (P := P) w ⟨b, o, none⟩ ((cs.toList.drop o).take n) (fun j v hv => by
    rw [add_zero_off, cell_of_row w b (o + j) cs ty fr hg]
    rw [List.getElem?_take] at hv
    split at hv
    · simpa using hv
    · cases hv)
  rw [hlen] at this
  simp only [loadVar, Sem.run_bind, run_isAgg ha, Result.andThen_ok, if_true, run_size hn, this]
  rfl

theorem run_loadVar_one {w : World} {t : TypeId} {b o : Nat} {cs : Array Value} {ty : TypeId} {fr : Nat × Nat} {v : Value} (hg : w.heap[b]? = some (.cells cs ty fr)) (ha : aggT P t = some false) (hv : cs[o]? = some v) :
    (loadVar t ⟨b, o, none⟩).run P w = .ok v w := by
  simp [loadVar, run_isAgg ha, cell_of_row w b o cs ty fr hg, hv]

theorem rowCells_rel {ks : List SK} {g : Nat → Int} {cs : List Value} {o : Nat} : ∀ {n c : Nat} {l : List AS}, rowCells ks g n c = some l →
    (∀ (c : Nat) (sk : SK), ks[c]? = some sk → ∃ v, cs[o + c]? = some v ∧ relS φ (mkS sk (g c)) v) → All2 (relS φ) l ((cs.drop (o + c)).take n) ∧ o + c + n ≤ cs.length + (if n = 0 then o + c else 0)
  | 0, c, l, h, _ => by simp [rowCells] at h; subst h; simp [All2]
  | n + 1, c, l, h, hk => by
    simp only [rowCells] at h
    split at h
    · rename_i sk hsk
      split at h
      · rename_i r hr
        obtain rfl := Option.some.inj h
        obtain ⟨v, hv, hrel⟩ := hk c sk hsk
        obtain ⟨ih1, ih2⟩ := rowCells_rel (n := n) (c := c + 1) hr hk
        have hlt : o + c < cs.length := by
          rcases Nat.lt_or_ge (o + c) cs.length with h' | h'
          · exact h'
          · simp [List.getElem?_eq_none h'] at hv
        have hd : cs.drop (o + c) = v :: cs.drop (o + c + 1) := by
          rw [List.drop_eq_getElem_cons hlt]
          rw [List.getElem?_eq_getElem hlt] at hv
          cases hv; rfl
        rw [hd, List.take_succ_cons]
        refine ⟨⟨hrel, by rw [show o + c + 1 = o + (c + 1) by omega]; exact ih1⟩, ?_⟩
        simp only [Nat.add_eq_zero_iff, Nat.one_ne_zero, and_false, if_false]
        split at ih2 <;> omega
      · cases h
    · cases h

theorem run_loadT {t : TypeId} {a tv : TV} {v : Value} {w : World} (h : (loadT P H t a).val = some tv) (hrep : Rep φ H w.heap) (ha : relT φ a v) :
    ∃ u, relT φ tv u ∧ (Instr.loadAt t v).run P w = .ok u w := by
  unfold loadT at h
  split at h
  · rename_i id o
    split at h
    · rename_i l hb
      obtain ⟨L, hL, h0, hsz, hreal⟩ := rep_blkC hrep hb
      obtain ⟨L', hL', rfl⟩ := ha
      rw [hL] at hL'; cases hL'
      split at h
      · rename_i hag
        split at h
        · rename_i n hn
          split at h
          · rename_i hle
            obtain ⟨hle, hn0⟩ := hle
            obtain rfl := val_ok h
            rcases hreal with hz | ⟨cs, ty, hcs, hrel⟩
            · omega
            have hlen := hrel.length_eq
            simp at hlen
            refine ⟨_, ⟨_, rfl, ?_⟩, by simp only [Instr.loadAt, Instr.sureAddr, Sem.run_bind, Sem.run_pure, Result.andThen_ok, h0, Nat.zero_add]; exact run_loadVar_at hcs hag hn (by omega)⟩
            exact (hrel.drop o).take n
          · simp [Tr.val] at h
        · simp [Tr.val] at h
      · rename_i hag
        rw [val_opt] at h
        obtain ⟨x, hx, rfl⟩ := Option.map_eq_some_iff.1 h
        rcases hreal with hz | ⟨cs, ty, hcs, hrel⟩
        · have : l = [] := List.length_eq_zero_iff.1 (by omega)
          rw [this] at hx; simp at hx
        obtain ⟨u, hu, hr⟩ := hrel.get hx
        exact ⟨u, hr, by simp only [Instr.loadAt, Instr.sureAddr, Sem.run_bind, Sem.run_pure, Result.andThen_ok, h0, Nat.zero_add]; exact run_loadVar_one hcs hag (by simpa using hu)⟩
      · simp [Tr.val] at h
    · simp [Tr.val] at h
  · rename_i id wd i c
    split at h
    · rename_i ks n g own hb
      split at h
      · rename_i hwd
        obtain ⟨L, hL, hLn, hn, hreal⟩ := hrep.blk _ _ (blk_some hb)
        obtain ⟨L', hL', hin, rfl⟩ := ha
        rw [hL] at hL'; cases hL'
        subst hwd
        have hi : i < n := by omega
        have hpos : ∀ {sk : SK}, ks[c]? = some sk → ∃ cs ty fr, w.heap[L.b]? = some (.cells cs ty fr) ∧ L.base + L.sz ≤ cs.size ∧
            ∀ (i c : Nat) (sk : SK), i < n → ks[c]? = some sk → ∃ v, cs[L.base + (i * ks.length + c)]? = some v ∧ relS φ (mkS sk (g i c)) v := by
          intro sk hsk
          rcases hreal with hz | ⟨cs, ty, fr, h1, h2, _, h4⟩
          · have hc : c < ks.length := by
              rcases Nat.lt_or_ge c ks.length with h' | h'
              · exact h'
              · simp [List.getElem?_eq_none h'] at hsk
            have : 1 * ks.length ≤ n * ks.length := Nat.mul_le_mul_right _ (by omega)
            omega
          · exact ⟨cs, ty, fr, h1, h2, h4⟩
        split at h
        · rename_i hag
          split at h
          · rename_i m hm
            split at h
            · simp [Tr.val] at h
            rename_i hm0
            rw [val_opt] at h
            obtain ⟨l, hl, rfl⟩ := Option.map_eq_some_iff.1 h
            obtain ⟨m', rfl⟩ : ∃ m', m = m' + 1 := ⟨m - 1, by omega⟩
            have hsk0 : ∃ sk, ks[c]? = some sk := by
              cases hsk : ks[c]? with
              | some sk => exact ⟨sk, rfl⟩
              | none => simp [rowCells, hsk] at hl
            obtain ⟨sk0, hsk0⟩ := hsk0
            obtain ⟨cs, ty, fr, hcs, hsz, hrows⟩ := hpos hsk0
            have hk : ∀ (c : Nat) (sk : SK), ks[c]? = some sk → ∃ v, cs.toList[(L.base + i * ks.length) + c]? = some v ∧ relS φ (mkS sk (g i c)) v := by
              intro c sk hsk
              obtain ⟨v, h1, h2⟩ := hrows i c sk hi hsk
              exact ⟨v, by rw [show L.base + i * ks.length + c = L.base + (i * ks.length + c) by omega]; simpa using h1, h2⟩
            obtain ⟨h1, h2⟩ := rowCells_rel hl hk
            refine ⟨_, ⟨_, rfl, h1⟩, ?_⟩
            simp only [Instr.loadAt, Instr.sureAddr, Sem.run_bind, Sem.run_pure, Result.andThen_ok]
            rw [if_neg (by omega)] at h2
            have := run_loadVar_at (P := P) (t := t) (n := m' + 1) (o := L.base + (i * ks.length + c)) hcs hag hm (by simp at h2; omega)
            rw [this, Nat.add_assoc]
          · simp [Tr.val] at h
        · rename_i hag
          split at h
          · rename_i sk hsk
            obtain rfl := val_ok h
            obtain ⟨cs, ty, fr, hcs, hsz, hrows⟩ := hpos hsk
            obtain ⟨u, h1, h2⟩ := hrows i c sk hi hsk
            exact ⟨u, h2, by simp only [Instr.loadAt, Instr.sureAddr, Sem.run_bind, Sem.run_pure, Result.andThen_ok]; exact run_loadVar_one hcs hag h1⟩
          · simp [Tr.val] at h
        · simp [Tr.val] at h
      · simp [Tr.val] at h
    · simp [Tr.val] at h
  · simp [Tr.val] at h

theorem allK_get {sk : SK} {ks : List SK} {n : Nat} : ∀ {len o : Nat}, allK sk ks n len o = true → ∀ j, j < len → ks[o + j * n]? = some sk
  | 0, o, _, j, hj => by omega
  | m + 1, o, h, j, hj => by
    simp only [allK] at h
    split at h
    · rename_i k hk
      split at h
      · rename_i hd
        have hd := of_decide_eq_true hd
        subst hd
        cases j with
        | zero => simpa using hk
        | succ j =>
          rw [← allK_get h j (by omega)]
          congr 1
          rw [Nat.add_mul]; omega
      · cases h
    · cases h

theorem kindX_get {ks : List SK} {n len o j : Nat} {sk : SK} (h : kindX ks n len o = some sk) (hj : j < len) : ks[o + j * n]? = some sk := by
  unfold kindX at h
  split at h
  · split at h
    · rename_i ha
      obtain rfl := Option.some.inj h
      exact allK_get ha j hj
    · cases h
  · cases h

theorem rowCellsX_eq {ks : List SK} {g : Nat → Int} {n len j : Nat} (hj : j < len) : ∀ {m o : Nat} {r : List AS}, rowCellsX ks g n len j m o = some r → rowCells ks g m (o + j * n) = some r
  | 0, _, _, h => h
  | m + 1, o, r, h => by
    simp only [rowCellsX] at h
    split at h
    · rename_i sk hsk
      split at h
      · rename_i r' hr
        obtain rfl := Option.some.inj h
        have e := rowCellsX_eq hj hr
        rw [show o + 1 + j * n = o + j * n + 1 by omega] at e
        simp only [rowCells, kindX_get hsk hj, e]
      · cases h
    · cases h

/-- A part that is not told is one that is told. -/
theorem px_p {id n o len j c : Nat} {v : Value} (h : relS φ (.px id 0 0 o n len j c) v) : j < len ∧ relS φ (.p id (o + j * n + c)) v := by
  obtain ⟨L, hL, hj, _, rfl⟩ := h
  exact ⟨hj, L, hL, by simp⟩

theorem px_pr {id wd i n o len j c : Nat} {v : Value} (hw : wd ≠ 0) (h : relS φ (.px id wd i o n len j c) v) : j < len ∧ relS φ (.pr id wd i (o + j * n + c)) v := by
  obtain ⟨L, hL, hj, hi, rfl⟩ := h
  rcases hi with h0 | hi
  · exact (hw h0).elim
  · exact ⟨hj, L, hL, hi, rfl⟩

theorem run_loadS {t : TypeId} {a tv : TV} {v : Value} {w : World} (h : (loadS P H t a).val = some tv) (hrep : Rep φ H w.heap) (ha : relT φ a v) :
    ∃ u, relT φ tv u ∧ (Instr.loadAt t v).run P w = .ok u w := by
  unfold loadS at h
  split at h
  · rename_i id wd i o n len j c
    unfold loadX at h
    split at h
    · rename_i l hb
      split at h
      · rename_i hw
        obtain ⟨rfl, rfl⟩ := hw
        obtain ⟨hj, ha'⟩ := px_p ha
        refine run_loadT (a := .v (.s (.p id (o + j * n + c)))) ?_ hrep ha'
        simp only [loadT, hb]
        split at h
        · split at h
          · rename_i m hm
            split at h
            · simp [Tr.val] at h
            rename_i hm0
            rw [val_opt] at h
            obtain ⟨r, hr, rfl⟩ := Option.map_eq_some_iff.1 h
            obtain ⟨rfl, e2⟩ := selSs_get hj hr
            have e2 := e2 hm0
            rw [if_pos ⟨by omega, hm0⟩, show o + c + j * n = o + j * n + c by omega]
            rfl
          · simp [Tr.val] at h
        · rw [val_opt] at h
          obtain ⟨r, hr, rfl⟩ := Option.map_eq_some_iff.1 h
          have e := selS_get hr hj
          rw [show o + c + j * n = o + j * n + c by omega] at e
          simp only [*, val_opt, Option.map_some]
        · simp [Tr.val] at h
      · simp [Tr.val] at h
    · rename_i ks m g own hb
      have hb := blkC_rows hb
      split at h
      · rename_i hw
        obtain ⟨rfl, hw0⟩ := hw
        obtain ⟨hj, ha'⟩ := px_pr hw0 ha
        refine run_loadT (a := .v (.s (.pr id ks.length i (o + j * n + c)))) ?_ hrep ha'
        simp only [loadT, hb, if_true]
        split at h
        · split at h
          · rename_i m hm
            split at h
            · simp [Tr.val] at h
            rename_i hm0
            rw [val_opt] at h
            obtain ⟨r, hr, rfl⟩ := Option.map_eq_some_iff.1 h
            have e := rowCellsX_eq hj hr
            rw [show o + c + j * n = o + j * n + c by omega] at e
            simp only [*, if_false, val_opt, Option.map_some]
          · simp [Tr.val] at h
        · split at h
          · rename_i sk hsk
            obtain rfl := val_ok h
            have e := kindX_get hsk hj
            rw [show o + c + j * n = o + j * n + c by omega] at e
            simp only [*]
            rw [show o + c + j * n = o + j * n + c by omega]
            rfl
          · simp [Tr.val] at h
        · simp [Tr.val] at h
      · simp [Tr.val] at h
    · simp [Tr.val] at h
  · exact run_loadT h hrep ha

end
end Go.AM
end

/-
  The abstract machine, part 6: each operation is sound.
-/
section
namespace Go.AM

section
variable {P : Program} {Γ : Specs} {φ : Phi} {H : AH} {ρ : Operand → TV} {e : Operand → Value}

theorem map_rel (hρ : ∀ x, relT φ (ρ x) (e x)) : ∀ (xs : List Operand), All2 (relT φ) (xs.map ρ) (xs.map e)
  | [] => trivial
  | x :: xs => ⟨hρ x, map_rel hρ xs⟩

/-- A call of a function that has a specification. -/
theorem does_call (hΓ : SpecOK P Γ) {f : FuncId} {targs : List TV} {args : List Value} {tv : TV} {H' : AH} {w : World} (h : ((Γ f).app targs H).val = some (tv, H')) (hrep : Rep φ H w.heap)
    (hargs : All2 (relT φ) targs args) : Does P φ H w ((callFunc f args.toArray).run P w) tv H' := by
  rcases hΓ f with h0 | ⟨⟨fn, h1, h2, h3⟩, hall, _⟩
  · rw [h0] at h; cases h
  · refine .inr ⟨f, args.toArray, ?_, hall φ H w targs args tv H' h hrep hargs⟩
    simp only [callFunc, Sem.run_bind, run_program, Result.andThen_ok, h1, h2, h3]
    rfl

theorem execOp_call_func {o : Oper} {c : Call} {f : FuncId} (ho : o.op = .call c) (hc : c.callee = .value (.func f)) (he : e (.func f) = .func (.func f) #[] #[]) (w : World) :
    (execOp e o).run P w = (callFunc f (c.args.map e)).run P w := by
  simp [execOp, ho, resolve, hc, he, Deferred.ofValue, invoke]

theorem stepN_sound (hΓ : SpecOK P Γ) (hρ : ∀ x, relT φ (ρ x) (e x)) (hf : ∀ f, e (.func f) = .func (.func f) #[] #[]) {o : Oper} {y : Option Nat} {tv : TV} {w : World} (h : (stepN P Γ y ρ o.op).val = some tv) (hrep : Rep φ H w.heap) :
    Does P φ H w ((execOp e o).run P w) tv H := by
  have fin : ∀ {s : Sem Value}, execOp e o = (do pure (.value (← s))) → (∃ v, relT φ tv v ∧ ∀ w, s.run P w = .ok v w) → Does P φ H w ((execOp e o).run P w) tv H := by
    intro s hs ⟨v, hv, hrun⟩
    exact Does.value (by rw [hs]; simp [hrun]) hv hrep
  unfold stepN at h
  split at h
  · rename_i x hop
    obtain rfl := val_ok h
    exact Does.value (by simp [execOp, hop]) (hρ x) hrep
  · rename_i x hop
    obtain rfl := val_ok h
    exact Does.value (by simp [execOp, hop]) (hρ x) hrep
  · rename_i c a b hop
    split at h
    · rename_i x hc
      have hcv := hρ c
      rw [hc] at hcv
      simp only [relT, relA, relS] at hcv
      have := run_pickT h (hρ a) (hρ b)
      refine Does.value ?_ this hrep
      simp [execOp, hop, hcv, asBool]
    · simp [Tr.val] at h
  · rename_i t parts hop
    split at h
    · rename_i ps hps
      rw [val_opt] at h
      refine fin (s := Instr.build t (parts.map fun x => (x.1, e x.2))) (by simp [execOp, hop]) (run_buildT h ?_)
      have := partsT_rel hρ hps
      simpa using this
    · simp [Tr.val] at h
  · rename_i x hop
    have hx := hρ x
    split at h
    · rename_i id o' hx'
      obtain rfl := val_ok h
      rw [hx'] at hx
      refine Does.value ?_ hx hrep
      obtain ⟨L, hL, hv⟩ := hx
      simp [execOp, hop, hv]
    · rename_i id wd i c hx'
      obtain rfl := val_ok h
      rw [hx'] at hx
      refine Does.value ?_ hx hrep
      obtain ⟨L, hL, hn, hv⟩ := hx
      simp [execOp, hop, hv]
    · rename_i id wd i o n len j c hx'
      obtain rfl := val_ok h
      rw [hx'] at hx
      refine Does.value ?_ hx hrep
      obtain ⟨L, hL, hj, hn, hv⟩ := hx
      simp [execOp, hop, hv]
    · simp [Tr.val] at h
  · rename_i op t a b yt hop
    exact fin (s := do eqGuard op t a b (e a) (e b); binOp op t (e a) (e b)) (by simp [execOp, hop]) (run_binT a b h (hρ a) (hρ b))
  · rename_i op t a hop
    exact fin (s := Op.unary op (e a)) (by simp [execOp, hop]) (run_unT h (hρ a))
  · rename_i s d x hop
    rw [val_opt] at h
    exact fin (s := convert s d (e x)) (by simp [execOp, hop]) (run_convT h (hρ x))
  · rename_i f first captured hop
    split at h
    · rename_i l h1 h2
      obtain rfl := val_ok h
      have hcap := capsT_rel hρ h2
      have h1' : first = #[] := by apply Array.ext'; simpa using h1
      refine Does.value (v := .func (.func f) #[] (captured.map e)) (by simp [execOp, hop, Instr.makeFunc, h1']) ?_ hrep
      exact ⟨captured.toList.map e, by congr 1; apply Array.ext'; simp, hcap⟩
    · simp [Tr.val] at h
  · rename_i t x lo hi mx hop
    exact fin (s := Instr.sliceAt t (e x) (lo.map e) (hi.map e) (mx.map e)) (by simp [execOp, hop]) (run_sliceT hρ h (hρ x))
  · rename_i arr x hop
    rw [val_opt] at h
    exact fin (s := Instr.arrayAt arr (e x)) (by simp [execOp, hop]) (run_arrPtrT h (hρ x))
  · rename_i s x f hop
    rw [val_opt] at h
    exact fin (s := Instr.fieldAt s (e x) f) (by simp [execOp, hop]) (run_fieldAddrT h (hρ x))
  · rename_i s x f hop
    rw [val_opt] at h
    exact fin (s := Instr.field s (e x) f) (by simp [execOp, hop]) (run_fieldT h (hρ x))
  · rename_i t x ix hop
    exact fin (s := Instr.indexAt t (e x) (e ix)) (by simp [execOp, hop]) (run_indexAddrS h (hρ x) (hρ ix))
  · rename_i t x ix hop
    exact fin (s := Instr.index t (e x) (e ix)) (by simp [execOp, hop]) (run_indexS h (hρ x) (hρ ix))
  · rename_i x i hop
    rw [val_opt] at h
    exact fin (s := Instr.extract (e x) i) (by simp [execOp, hop]) (run_extractT h (hρ x))
  · rename_i c hop
    split at h
    · rename_i f hc
      split at h
      · rename_i F hF
        have := does_call (H' := H) hΓ (f := f) (targs := c.args.toList.map ρ) (args := c.args.toList.map e) (tv := tv) (w := w) (by rw [hF]; simp [Spec.app, Tr.val_bind, h, Tr.val]) hrep (map_rel hρ _)
        rw [execOp_call_func hop hc (hf f)]
        have e1 : (List.map e c.args.toList).toArray = c.args.map e := by apply Array.ext'; simp
        rw [e1] at this
        exact this
      · simp [Tr.val] at h
    · rename_i hc
      split at h
      · rename_i t x h1 h2
        rw [val_opt] at h
        have e1 : c.argTypes = #[t] := by apply Array.ext'; simpa using h1
        have e2 : c.args = #[x] := by apply Array.ext'; simpa using h2
        refine fin (s := Builtin.len_ #[t] o.type #[e x]) ?_ (run_lenT h (hρ x))
        simp [execOp, hop, resolve, hc, invoke, builtin, e1, e2]
      · simp [Tr.val] at h
    · rename_i hc
      split at h
      · rename_i x rest h2
        rw [Tr.val_bind, val_opt] at h
        obtain ⟨tv0, h, h'⟩ := Option.bind_eq_some_iff.1 h
        obtain rfl := splitTV_val h'
        refine fin (s := (rest.map e).foldlM Builtin.min2 (e x)) ?_ (run_minT h (hρ x) (map_rel hρ rest))
        have e2 : (c.args.map e).toList = e x :: rest.map e := by simp [h2]
        simp [execOp, hop, resolve, hc, invoke, builtin, Builtin.min_, h2]
      · simp [Tr.val] at h
    · rename_i hc
      split at h
      · rename_i x rest h2
        rw [val_opt] at h
        refine fin (s := (rest.map e).foldlM Builtin.max2 (e x)) ?_ (run_maxT h (hρ x) (map_rel hρ rest))
        simp [execOp, hop, resolve, hc, invoke, builtin, Builtin.max_, h2]
      · simp [Tr.val] at h
    · simp [Tr.val] at h
  · simp [Tr.val] at h

theorem viewT_rel {x : TV} {v : Value} {id wd i len : Nat} (h : viewT x = some (id, wd, i, len)) (hx : relT φ x v) :
    (len = 0 ∧ ∃ a, v = .slice a 0 0) ∨ ∃ L cap, φ[id]? = some L ∧ len ≤ cap ∧ i + len ≤ L.n ∧ v = .slice (some ⟨L.b, L.base + i * wd, none⟩) len cap := by
  unfold viewT at h
  split at h
  · cases h
    rcases hx with ⟨h2, _, a0, rfl⟩ | ⟨L, cap, hL, hle, hcp, hnn, hsz, rfl⟩
    · exact .inl ⟨h2, a0, rfl⟩
    · exact .inr ⟨L, cap, hL, by omega, by omega, rfl⟩
  · cases h
    rcases hx with ⟨h2, a0, rfl⟩ | ⟨L, hL, hnn, hsz, rfl⟩
    · exact .inl ⟨h2, a0, rfl⟩
    · exact .inr ⟨L, len, hL, Nat.le_refl _, hnn, rfl⟩
  · cases h
    exact hx
  · cases h
    rcases slr_of_slw hx with ⟨h2, _, a0, rfl⟩ | ⟨L, cap, hL, hle, hcp, hnn, hsz, rfl⟩
    · exact .inl ⟨h2, a0, rfl⟩
    · exact .inr ⟨L, cap, hL, by omega, by omega, rfl⟩
  · cases h

/-- The rows that a view looks at. -/
theorem view_cells {heap : Array Obj} {id i len : Nat} {ks : List SK} {n : Nat} {g : Nat → Nat → Int} {own : Bool} {L : Loc} (hrep : Rep φ H heap) (hb : blk H id = some (.rows ks n g own)) (hL : φ[id]? = some L) (hin : i + len ≤ L.n)
    (hpos : 0 < len * ks.length) : ∃ cs ty fr, heap[L.b]? = some (.cells cs ty fr) ∧ L.base + (i * ks.length + len * ks.length) ≤ cs.size ∧
      ∀ (j c : Nat) (sk : SK), j < len → ks[c]? = some sk → ∃ v, cs[L.base + ((i + j) * ks.length + c)]? = some v ∧ relS φ (mkS sk (g (i + j) c)) v := by
  obtain ⟨L', hL', hLn, hn, hreal⟩ := hrep.blk _ _ (blk_some hb)
  rw [hL] at hL'; cases hL'
  have h1 : (i + len) * ks.length ≤ n * ks.length := Nat.mul_le_mul_right _ (by omega)
  rw [Nat.add_mul] at h1
  rcases hreal with hz | ⟨cs, ty, fr, h2, h3, _, h4⟩
  · omega
  · exact ⟨cs, ty, fr, h2, by omega, fun j c sk hj hc => h4 (i + j) c sk (by omega) hc⟩

theorem bytes_run {f : Value → ByteArray → Sem (ForInStep ByteArray)} (hf : ∀ n s w, (f (.int .u8 n) s).run P w = .ok (.yield (s.push (UInt8.ofNat n.toNat))) w) : ∀ (cs : List Value) (l : List UInt8) (s : ByteArray) (w : World), All2 (fun (b : UInt8) v => ∃ x : Int, v = .int .u8 x ∧ b = UInt8.ofNat x.toNat) l cs →
    (forIn cs s f).run P w = .ok ⟨(s.data.toList ++ l).toArray⟩ w
  | [], [], s, w, _ => by simp
  | c :: cs, b :: l, s, w, h => by
    obtain ⟨⟨x, rfl, rfl⟩, h2⟩ := h
    simp only [List.forIn_cons, Sem.run_bind, hf, Result.andThen_ok]
    rw [bytes_run hf cs l _ w h2]
    simp [ByteArray.push]
  | [], _ :: _, _, _, h => h.elim
  | _ :: _, [], _, _, h => h.elim

/-- What a view reads, cell by cell. -/
theorem view_load {x : TV} {v : Value} {id wd i len : Nat} {ks : List SK} {n : Nat} {g : Nat → Nat → Int} {own : Bool} {w : World} (hv : viewT x = some (id, wd, i, len)) (hx : relT φ x v) (hrep : Rep φ H w.heap) (hb : blk H id = some (.rows ks n g own)) (hwd : wd = ks.length) :
    ∃ cells : List Value, cells.length = len * wd ∧ (∀ (j c : Nat) (sk : SK), j < len → ks[c]? = some sk → ∃ u, cells[j * wd + c]? = some u ∧ relS φ (mkS sk (g (i + j) c)) u) ∧
      ((len = 0 ∧ ∃ a, v = .slice a 0 0) ∨ ∃ L cap, φ[id]? = some L ∧ len ≤ cap ∧ v = .slice (some ⟨L.b, L.base + i * wd, none⟩) len cap ∧ ∀ j u, cells[j]? = some u → w.cell? ((⟨L.b, L.base + i * wd, none⟩ : Addr).add j) = some u) := by
  subst hwd
  rcases viewT_rel hv hx with ⟨h0, a, rfl⟩ | ⟨L, cap, hL, hle, hin, rfl⟩
  · subst h0
    exact ⟨[], by simp, fun j c sk hj => by omega, .inl ⟨rfl, a, rfl⟩⟩
  · rcases Nat.eq_zero_or_pos (len * ks.length) with hz | hpos
    · refine ⟨[], by simp [hz], fun j c sk hj hc => ?_, .inr ⟨L, cap, hL, hle, rfl, fun j u h => by simp at h⟩⟩
      have hc' : c < ks.length := (List.getElem?_eq_some_iff.1 hc).1
      rcases Nat.mul_eq_zero.1 hz with h | h <;> omega
    · obtain ⟨cs, ty, fr, h1, h2, h3⟩ := view_cells hrep hb hL hin hpos
      refine ⟨(cs.toList.drop (L.base + i * ks.length)).take (len * ks.length), ?_, fun j c sk hj hc => ?_, .inr ⟨L, cap, hL, hle, rfl, fun j u h => ?_⟩⟩
      · simp; omega
      · obtain ⟨u, h4, h5⟩ := h3 j c sk hj hc
        have hc' : c < ks.length := (List.getElem?_eq_some_iff.1 hc).1
        have hlt : j * ks.length + c < len * ks.length := by
          have : (j + 1) * ks.length ≤ len * ks.length := Nat.mul_le_mul_right _ hj
          rw [Nat.add_mul] at this
          omega
        refine ⟨u, ?_, h5⟩
        rw [List.getElem?_take, if_pos hlt, List.getElem?_drop, ← h4, Array.getElem?_toList]
        congr 1
        rw [Nat.add_mul]
        omega
      · rw [List.getElem?_take] at h
        split at h
        · rw [List.getElem?_drop, Array.getElem?_toList] at h
          simp only [add_zero_off, World.cell?, h1]
          simpa using h
        · cases h

theorem run_bytesStrT {s d : TypeId} {x tv : TV} {v : Value} {w : World} (h : bytesStrT P H s d x = some tv) (hrep : Rep φ H w.heap) (ha : relT φ x v) :
    ∃ u, relT φ tv u ∧ (convert s d v).run P w = .ok u w := by
  unfold bytesStrT at h
  split at h
  · rename_i e hs hd
    split at h
    · rename_i he
      split at h
      · rename_i id wd i len hv
        split at h
        · rename_i ks n g own hb
          split at h
          · rename_i hk
            obtain ⟨rfl, rfl⟩ := hk
            obtain rfl := Option.some.inj h
            obtain ⟨cells, hlen, hrel, hval⟩ := view_load hv ha hrep hb rfl
            have hall : All2 (fun (b : UInt8) v => ∃ x : Int, v = .int .u8 x ∧ b = UInt8.ofNat x.toNat) ((List.range len).map fun j => UInt8.ofNat (g (i + j) 0).toNat) cells := by
              refine All2.of_get (by simp [hlen]) fun j a b h1 h2 => ?_
              have hj : j < len := by
                have := (List.getElem?_eq_some_iff.1 h2).1
                omega
              obtain ⟨u, h3, h4⟩ := hrel j 0 (.n .u8) hj rfl
              simp only [Nat.mul_one, Nat.add_zero] at h3
              rw [h3] at h2
              cases h2
              simp only [List.getElem?_map, List.getElem?_range hj, Option.map_some, Option.some.injEq] at h1
              exact ⟨g (i + j) 0, h4, h1.symm⟩
            rcases hval with ⟨h0, a, rfl⟩ | ⟨L, cap, hL, hle, rfl, hcell⟩
            · subst h0
              refine ⟨.string .empty, ⟨.empty, rfl, rfl⟩, ?_⟩
              cases a with
              | none => simp [convert, run_underlying hs, run_underlying hd, run_underlying he, Conv.bytesToString]
              | some a => simp [convert, run_underlying hs, run_underlying hd, run_underlying he, Conv.bytesToString, loadCells, loadCellsFrom]
            · have hl := run_loadCells_list (P := P) w ⟨L.b, L.base + i * 1, none⟩ cells hcell
              rw [hlen] at hl
              refine ⟨.string ⟨(ByteArray.empty.data.toList ++ ((List.range len).map fun j => UInt8.ofNat (g (i + j) 0).toNat)).toArray⟩, ⟨_, rfl, by simp⟩, ?_⟩
              simp only [convert, Sem.run_bind, run_underlying hs, run_underlying hd, run_underlying he, Result.andThen_ok, Conv.bytesToString]
              have hl' : (loadCells ⟨L.b, L.base + i * 1, none⟩ len).run P w = .ok cells.toArray w := by simpa using hl
              rw [hl']
              simp only [Result.andThen_ok]
              rw [← Array.forIn_toList, bytes_run (P := P) (fun n s w => rfl) cells _ .empty w hall]
              simp
          · cases h
        · cases h
      · cases h
    · cases h
  · cases h

theorem stepR_sound (hΓ : SpecOK P Γ) (hρ : ∀ x, relT φ (ρ x) (e x)) (hf : ∀ f, e (.func f) = .func (.func f) #[] #[]) {o : Oper} {y : Option Nat} {tv : TV} {w : World} (h : (stepR P Γ y ρ H o.op).val = some tv) (hrep : Rep φ H w.heap) :
    Does P φ H w ((execOp e o).run P w) tv H := by
  unfold stepR at h
  split at h
  · rename_i t a hop
    obtain ⟨u, hu, hrun⟩ := run_loadS h hrep (hρ a)
    exact Does.value (by simp [execOp, hop, hrun]) hu hrep
  · rename_i s d x hop
    rw [val_opt] at h
    obtain ⟨u, hu, hrun⟩ := run_bytesStrT h hrep (hρ x)
    exact Does.value (by simp [execOp, hop, hrun]) hu hrep
  · rename_i c hop
    split at h
    · rename_i f hc
      split at h
      · rename_i F hF
        have := does_call (H' := H) hΓ (f := f) (targs := c.args.toList.map ρ) (args := c.args.toList.map e) (tv := tv) (w := w) (by rw [hF]; simp [Spec.app, Tr.val_bind, h, Tr.val]) hrep (map_rel hρ _)
        rw [execOp_call_func hop hc (hf f)]
        have e1 : (List.map e c.args.toList).toArray = c.args.map e := by apply Array.ext'; simp
        rw [e1] at this
        exact this
      · simp [Tr.val] at h
    · rename_i t hc
      have hx := hρ (.tmp t)
      unfold dynR at h
      split at h
      · rename_i f caps hfx
        rw [hfx] at hx
        obtain ⟨cs, hv, hcs⟩ := hx
        have hargs : All2 (relT φ) (c.args.toList.map ρ ++ caps.map fun c => TV.v (AV.s (AS.p c.1 c.2))) (c.args.toList.map e ++ cs) := by
          refine (map_rel hρ _).append ?_
          exact All2.map_l (f := fun (c : Nat × Nat) => TV.v (AV.s (AS.p c.1 c.2))) (fun c u h => h) hcs
        have happ : ((Γ f).app (c.args.toList.map ρ ++ caps.map fun c => TV.v (AV.s (AS.p c.1 c.2))) H).val = some (tv, H) := by
          split at h
          · rename_i F hF
            rw [hF]; simp [Spec.app, Tr.val_bind, h, Tr.val]
          · rename_i F hF
            rw [hF]; simp [Spec.app, Tr.val_bind, h, Tr.val]
          · simp [Tr.val] at h
        have := does_call hΓ (f := f) (w := w) happ hrep hargs
        have e1 : (execOp e o).run P w = (callFunc f (c.args.toList.map e ++ cs).toArray).run P w := by
          have e2 : (c.args.toList.map e ++ cs).toArray = c.args.map e ++ cs.toArray := by apply Array.ext'; simp
          simp [execOp, hop, resolve, hc, hv, Deferred.ofValue, invoke, e2]
        rw [e1]
        exact this
      · simp [Tr.val] at h
    · simp [Tr.val] at h
  · simp [Tr.val] at h

/-! ### operations that turn the memory -/

theorem updRow_spec {ks : List SK} {i : Nat} : ∀ {as : List AS} {g g' : Nat → Nat → Int} {c : Nat}, updRow ks g i c as = some g' →
    (∀ (j : Nat) (a : AS), as[j]? = some a → ∃ sk, ks[c + j]? = some sk ∧ mkS sk (g' i (c + j)) = a) ∧ (∀ i' c', ¬ (i' = i ∧ c ≤ c' ∧ c' < c + as.length) → g' i' c' = g i' c') ∧ (as = [] ∨ c + as.length ≤ ks.length)
  | [], g, g', c, h => by
    simp [updRow] at h
    subst h
    exact ⟨fun j a hj => by simp at hj, fun _ _ _ => rfl, .inl rfl⟩
  | a :: as, g, g', c, h => by
    simp only [updRow] at h
    split at h
    · rename_i sk hsk
      split at h
      · rename_i x hx
        obtain ⟨h1, h2, h3⟩ := updRow_spec h
        refine ⟨?_, ?_, .inr ?_⟩
        · intro j b hj
          cases j with
          | zero =>
            simp at hj
            subst hj
            refine ⟨sk, hsk, ?_⟩
            rw [Nat.add_zero, h2 i c (by omega)]
            simp only [updG, if_true]
            exact asInt_mk hx
          | succ j =>
            simp at hj
            obtain ⟨sk', e1, e2⟩ := h1 j b hj
            rw [show c + (j + 1) = c + 1 + j by omega]
            exact ⟨sk', e1, e2⟩
        · intro i' c' hn
          simp only [List.length_cons] at hn
          rw [h2 i' c' (by omega)]
          unfold updG
          by_cases e1 : c' = c
          · by_cases e2 : i' = i
            · exact (hn ⟨e2, by omega, by omega⟩).elim
            · simp [e1, e2]
          · simp [e1]
        · have hlt : c < ks.length := by
            rcases Nat.lt_or_ge c ks.length with h' | h'
            · exact h'
            · simp [List.getElem?_eq_none h'] at hsk
          simp only [List.length_cons]
          rcases h3 with rfl | h3
          · simp; omega
          · omega
      · cases h
    · cases h

theorem storeVar_run {w : World} {t : TypeId} {n b o : Nat} {v : Value} {cs : Array Value} {ty : TypeId} (hn : sizeT P t = some n) (hv : v.cells.size = n) (hc : ∀ x ∈ v.cells.toList, x.oneCell' = true)
    (hg : w.heap[b]? = some (.cells cs ty (0, 0))) (ho : o + n ≤ cs.size) :
    (storeVar t ⟨b, o, none⟩ v).run P w = .ok () (w.setRow b (cs.toList.take o ++ v.cells.toList ++ cs.toList.drop (o + n)).toArray) := by
  have := run_storeCells_at (P := P) b o ty v.cells.toList 0 cs w hg (by simp [hv]; omega) hc
  simp only [storeVar, Sem.run_bind, run_size hn, Result.andThen_ok, hv]
  simp only [ne_eq, not_true_eq_false, if_false, this]
  simp [hv]

theorem all_oneCell {φ : Phi} : ∀ {l : List AS} {vs : List Value}, All2 (relS φ) l vs → ∀ x ∈ vs, x.oneCell' = true
  | [], [], _, x, hx => by simp at hx
  | _ :: _, _ :: _, h, x, hx => by
    rcases List.mem_cons.1 hx with rfl | hx
    · exact relS.oneCell h.1
    · exact all_oneCell h.2 x hx
  | [], _ :: _, h, _, _ => h.elim
  | _ :: _, [], h, _, _ => h.elim

theorem rep_setW {w w' : World} {id : Nat} {B B' : Blk} {L : Loc} (o1 : w'.os = w.os) (o2 : w'.output = w.output) (o3 : w'.tape = w.tape) (h : Rep φ H w.heap) (hid : H[id]? = some (some B)) (hL : φ[id]? = some L) (hm : B.mut = true) (hf : ∀ b, B'.foot L b → B.foot L b)
    (hsz : w.heap.size ≤ w'.heap.size) (ho : ∀ b, ¬ B.foot L b → b < w.heap.size → w'.heap[b]? = w.heap[b]?) (hB : RepB φ L w'.heap B') :
    Rep φ (H.set id (some B')) w'.heap ∧ Ext φ H w φ (H.set id (some B')) w' :=
  let ⟨a, b⟩ := rep_set h hid hL hm hf hsz ho hB
  ⟨a, b, o1, o2, o3⟩

theorem run_storeT {t : TypeId} {a x : TV} {H' : AH} {va vx : Value} {w : World} (h : (storeT P H t a x).val = some H') (hrep : Rep φ H w.heap) (ha : relT φ a va) (hx : relT φ x vx) :
    ∃ w', (Instr.storeAt t va vx).run P w = .ok () w' ∧ Rep φ H' w'.heap ∧ Ext φ H w φ H' w' := by
  unfold storeT at h
  split at h
  · rename_i v
    split at h
    · rename_i n hn
      split at h
      · rename_i hlen
        have hcells := relA.cells hx
        have hvlen : vx.cells.size = n := by have := hcells.length_eq; simp at this; omega
        split at h
        · rename_i id o
          split at h
          · rename_i l hb
            split at h
            · rename_i hle
              obtain ⟨hle, hn0⟩ := hle
              rw [forceL_eq] at h
              obtain rfl := val_ok h
              obtain ⟨L, hL, h0, hsz, hreal⟩ := hrep.blk _ _ (blk_some hb)
              obtain ⟨L', hL', rfl⟩ := ha
              rw [hL] at hL'; cases hL'
              rcases hreal with hz | ⟨cs, ty, hcs, hrel⟩
              · omega
              have hl2 := hrel.length_eq
              simp at hl2
              have hrun := storeVar_run (P := P) (w := w) hn hvlen (all_oneCell hcells) hcs (show o + n ≤ cs.size by omega)
              refine ⟨_, by simp only [Instr.storeAt, Instr.sureAddr, Sem.run_bind, Sem.run_pure, Result.andThen_ok, h0, Nat.zero_add]; exact hrun, ?_⟩
              refine rep_setW (by simp) (by simp) (by simp) hrep (blk_some hb) hL rfl (fun _ h => h) (by simp) (fun b hne _ => setRow_other w L.b b _ (fun e => hne ⟨by omega, e.symm⟩)) ⟨h0, ?_, .inr ⟨_, ty, setRow_heap w L.b cs _ ty (0, 0) hcs, ?_⟩⟩
              · have : v.cells.length = n := hlen
                simp [setAll]; omega
              · have := setAll_rel hrel hcells o
                simp only [Array.length_toList, hvlen] at this
                exact this
            · simp [Tr.val] at h
          · simp [Tr.val] at h
        · rename_i id wd i c
          split at h
          · rename_i ks m g hb
            split at h
            · rename_i hwd
              obtain ⟨hwd, hn0⟩ := hwd
              subst hwd
              split at h
              · rename_i g' hg'
                obtain rfl := val_ok h
                obtain ⟨L, hL, hLn, hmn, hreal⟩ := hrep.blk _ _ (blk_some hb)
                obtain ⟨L', hL', hin', rfl⟩ := ha
                rw [hL] at hL'; cases hL'
                have hi : i < m := by omega
                obtain ⟨u1, u2, u3⟩ := updRow_spec hg'
                have hlen' : v.cells.length = n := hlen
                have hbound : i * ks.length + ks.length ≤ m * ks.length := by
                  have : (i + 1) * ks.length ≤ m * ks.length := Nat.mul_le_mul_right _ hi
                  rw [Nat.add_mul] at this; omega
                have u3 : c + v.cells.length ≤ ks.length := by
                  rcases u3 with u3 | u3
                  · rw [u3] at hlen'; simp at hlen'; omega
                  · exact u3
                rcases hreal with hz | ⟨cs, ty, fr, hcs, hsz, hown, hrows⟩
                · omega
                obtain ⟨h0, rfl⟩ := hown rfl
                have hin : L.base + (i * ks.length + c) + n ≤ cs.size := by omega
                have hrun := storeVar_run (P := P) (w := w) hn hvlen (all_oneCell hcells) hcs hin
                refine ⟨_, by simp only [Instr.storeAt, Instr.sureAddr, Sem.run_bind, Sem.run_pure, Result.andThen_ok]; exact hrun, ?_⟩
                have hnew := setRow_heap w L.b cs (cs.toList.take (L.base + (i * ks.length + c)) ++ vx.cells.toList ++ cs.toList.drop (L.base + (i * ks.length + c) + n)).toArray ty (0, 0) hcs
                refine rep_setW (by simp) (by simp) (by simp) hrep (blk_some hb) hL rfl (fun _ h => h) (by simp) (fun b hne _ => setRow_other w L.b b _ (fun e => hne ⟨by omega, e.symm⟩)) ⟨hLn, hmn, .inr ⟨_, ty, (0, 0), hnew, ?_, fun _ => ⟨h0, rfl⟩, ?_⟩⟩
                · simp [hvlen]; omega
                · intro i' c' sk hi' hsk
                  have hc'lt : c' < ks.length := by
                    rcases Nat.lt_or_ge c' ks.length with h' | h'
                    · exact h'
                    · simp [List.getElem?_eq_none h'] at hsk
                  have hget : ∀ (k : Nat), (cs.toList.take (L.base + (i * ks.length + c)) ++ vx.cells.toList ++ cs.toList.drop (L.base + (i * ks.length + c) + n)).toArray[k]? =
                      if L.base + (i * ks.length + c) ≤ k ∧ k < L.base + (i * ks.length + c) + n then vx.cells.toList[k - (L.base + (i * ks.length + c))]? else cs[k]? := by
                    intro k
                    simp only [List.getElem?_toArray, List.getElem?_append, List.length_append, List.length_take, Array.length_toList, hvlen, List.getElem?_take, List.getElem?_drop]
                    have em : min (L.base + (i * ks.length + c)) cs.size = L.base + (i * ks.length + c) := by omega
                    rw [em]
                    by_cases k1 : k < L.base + (i * ks.length + c)
                    · simp [k1, show k < L.base + (i * ks.length + c) + n by omega, show ¬ (L.base + (i * ks.length + c) ≤ k) by omega]
                    · by_cases k2 : k < L.base + (i * ks.length + c) + n
                      · simp [k1, k2, show L.base + (i * ks.length + c) ≤ k by omega]
                      · simp only [k2, if_false, and_false]
                        rw [show L.base + (i * ks.length + c) + n + (k - (L.base + (i * ks.length + c) + n)) = k by omega]
                        simp
                  rw [hget]
                  by_cases hcase : i' = i ∧ c ≤ c' ∧ c' < c + v.cells.length
                  · obtain ⟨rfl, hc1, hc2⟩ := hcase
                    have hj : c' - c < v.cells.length := by omega
                    obtain ⟨sk', e1, e2⟩ := u1 (c' - c) _ (List.getElem?_eq_getElem hj)
                    rw [show c + (c' - c) = c' by omega] at e1 e2
                    rw [hsk] at e1; cases e1
                    obtain ⟨u, hu, hr⟩ := hcells.get (List.getElem?_eq_getElem hj)
                    rw [if_pos (by omega), show L.base + (i' * ks.length + c') - (L.base + (i' * ks.length + c)) = c' - c by omega]
                    exact ⟨u, hu, by rw [e2]; exact hr⟩
                  · rw [if_neg, u2 i' c' hcase]
                    · exact hrows i' c' sk hi' hsk
                    · rintro ⟨k1, k2⟩
                      apply hcase
                      have e1 : i' = i := by
                        rcases Nat.lt_trichotomy i' i with hh | hh | hh
                        · have : (i' + 1) * ks.length ≤ i * ks.length := Nat.mul_le_mul_right _ hh
                          rw [Nat.add_mul] at this; omega
                        · exact hh
                        · have : (i + 1) * ks.length ≤ i' * ks.length := Nat.mul_le_mul_right _ hh
                          rw [Nat.add_mul] at this; omega
                      subst e1
                      exact ⟨rfl, by omega, by omega⟩
              · simp [Tr.val] at h
            · simp [Tr.val] at h
          · simp [Tr.val] at h
        · simp [Tr.val] at h
      · simp [Tr.val] at h
    · simp [Tr.val] at h
  · simp [Tr.val] at h

theorem updRowX_eq {ks : List SK} {i n len j : Nat} (hj : j < len) : ∀ {as : List AS} {g g' : Nat → Nat → Int} {o : Nat}, updRowX ks g i n len j o as = some g' → updRow ks g i (o + j * n) as = some g'
  | [], _, _, _, h => h
  | a :: as, g, g', o, h => by
    simp only [updRowX] at h
    split at h
    · rename_i sk hsk
      split at h
      · rename_i x hx
        have e := updRowX_eq hj h
        rw [show o + 1 + j * n = o + j * n + 1 by omega] at e
        simp only [updRow, kindX_get hsk hj, hx, e]
      · cases h
    · cases h

theorem run_storeS {t : TypeId} {a x : TV} {H' : AH} {va vx : Value} {w : World} (h : (storeS P H t a x).val = some H') (hrep : Rep φ H w.heap) (ha : relT φ a va) (hx : relT φ x vx) :
    ∃ w', (Instr.storeAt t va vx).run P w = .ok () w' ∧ Rep φ H' w'.heap ∧ Ext φ H w φ H' w' := by
  unfold storeS at h
  split at h
  · rename_i id wd i o n len j c
    unfold storeX at h
    split at h
    · rename_i v
      split at h
      · rename_i m hm
        split at h
        · rename_i hlen
          obtain ⟨hlen, hm0⟩ := hlen
          split at h
          · rename_i l hb
            split at h
            · rename_i hw
              obtain ⟨rfl, rfl, hn⟩ := hw
              split at h
              · rename_i l' hl'
                rw [forceL_eq] at h
                obtain rfl := val_ok h
                obtain ⟨hj, ha'⟩ := px_p ha
                refine run_storeT (a := .v (.s (.p id (o + j * n + c)))) (x := .v v) ?_ hrep ha' hx
                have hne : v.cells ≠ [] := by intro e; rw [e] at hlen; simp at hlen; omega
                obtain ⟨rfl, e2⟩ := setXs_eq hn hj hl' hne
                simp only [storeT, hm, hlen, hb, if_true]
                rw [if_pos ⟨by omega, hm0⟩, forceL_eq, show o + c + j * n = o + j * n + c by omega]
                rfl
              · simp [Tr.val] at h
            · simp [Tr.val] at h
          · rename_i ks r g hb
            split at h
            · rename_i hw
              obtain ⟨rfl, hw0⟩ := hw
              split at h
              · rename_i g' hg'
                obtain rfl := val_ok h
                obtain ⟨hj, ha'⟩ := px_pr hw0 ha
                refine run_storeT (a := .v (.s (.pr id ks.length i (o + j * n + c)))) (x := .v v) ?_ hrep ha' hx
                have e := updRowX_eq hj hg'
                rw [show o + c + j * n = o + j * n + c by omega] at e
                simp only [storeT, hm, hlen, hb, if_true, e]
                rw [if_pos ⟨trivial, hm0⟩]
                rfl
              · simp [Tr.val] at h
            · simp [Tr.val] at h
          · simp [Tr.val] at h
        · simp [Tr.val] at h
      · simp [Tr.val] at h
    · simp [Tr.val] at h
  · exact run_storeT h hrep ha hx
end
end Go.AM
end
