/-
  The abstract machine, part 4: the other operations that do not look at the memory.
-/
import Derived.Test.YtepdekambalmhaaAm3
namespace Go.AM

section
variable {P : Program} {φ : Phi}

theorem relT_v {a : AV} {v : Value} : relT φ (.v a) v ↔ relA φ a v := Iff.rfl
theorem relA_s {a : AS} {v : Value} : relA φ (.s a) v ↔ relS φ a v := Iff.rfl

theorem add_zero_off (b o n : Nat) : (⟨b, o, none⟩ : Addr).add n = ⟨b, o + n, none⟩ := by
  unfold Addr.add; split <;> simp_all

theorem zeroT_rel {t : TypeId} {l : List AS} (h : zeroT P t = some l) : ∃ i z, P.info? t = some i ∧ i.zero = some z ∧ All2 (relS φ) l z.cells.toList := by
  unfold zeroT at h
  cases hi : P.info? t with
  | none => simp [hi] at h
  | some i =>
    cases hz : i.zero with
    | none => simp [hi, hz] at h
    | some z =>
      simp only [hi, hz, Option.map_eq_some_iff] at h
      obtain ⟨a, ha, rfl⟩ := h
      exact ⟨i, z, rfl, hz, relA.cells (absV_rel ha)⟩

/-! ### build -/

theorem setAll_rel {l vs : List AS} {cs ds : List Value} (hl : All2 (relS φ) l cs) (hv : All2 (relS φ) vs ds) (o : Nat) :
    All2 (relS φ) (setAll l o vs) (cs.take o ++ ds ++ cs.drop (o + ds.length)) := by
  unfold setAll
  rw [hv.length_eq]
  exact ((hl.take o).append hv).append (hl.drop _)

theorem foldl_set (cs : Array Value) (off : Nat) : ∀ (ds : List Value) (k : Nat), off + k + ds.length ≤ cs.size →
    ((ds.zipIdx k).foldl (fun cs (x : Value × Nat) => cs.setIfInBounds (off + x.2) x.1) cs).toList = cs.toList.take (off + k) ++ ds ++ cs.toList.drop (off + k + ds.length)
  | [], k, _ => by simp
  | d :: ds, k, h => by
    simp only [List.length_cons] at h
    simp only [List.zipIdx_cons, List.foldl_cons]
    have ih := foldl_set (cs.setIfInBounds (off + k) d) off ds (k + 1) (by simp; omega)
    rw [ih]
    apply List.ext_getElem?
    intro j
    simp only [Array.toList_setIfInBounds, List.getElem?_append, List.length_take, List.length_set, Array.length_toList, List.getElem?_take, List.getElem?_drop, List.getElem?_set, List.length_append, List.length_cons]
    have e1 : min (off + (k + 1)) cs.size = off + k + 1 := by omega
    have e2 : min (off + k) cs.size = off + k := by omega
    rw [e1, e2]
    by_cases h1 : j < off + k
    · have h2 : ¬ (off + k = j) := by omega
      simp [h1, h2, show j < off + k + 1 by omega, show j < off + k + 1 + ds.length by omega, show j < off + k + (ds.length + 1) by omega, show j < off + (k + 1) by omega]
    · by_cases h2 : off + k = j
      · subst h2
        simp [show off + k < cs.size by omega, show off + k < off + k + 1 + ds.length by omega, show off + k < off + (k + 1) by omega]
      · have h3 : off + k + 1 ≤ j := by omega
        by_cases h4 : j < off + k + 1 + ds.length
        · simp [h1, h4, show ¬ j < off + k + 1 by omega, show j < off + k + (ds.length + 1) by omega]
          rw [show j - (off + k) = (j - (off + k + 1)) + 1 by omega]
          simp
        · simp only [h4, if_false, show ¬ j < off + k + (ds.length + 1) by omega]
          rw [show off + (k + 1) + ds.length + (j - (off + k + 1 + ds.length)) = j by omega, show off + k + (ds.length + 1) + (j - (off + k + (ds.length + 1))) = j by omega]
          simp [h2]

theorem fill_rel {place : Nat → Option (Nat × Nat)} : ∀ {parts : List (Nat × AV)} {vals : List (Nat × Value)} {l r : List AS} {cs : Array Value},
    All2 (relS φ) l cs.toList → All2 (fun (a : Nat × AV) (b : Nat × Value) => a.1 = b.1 ∧ relA φ a.2 b.2) parts vals → fillA place l parts = some r →
    ∃ ds, Instr.fill place cs vals = some ds ∧ All2 (relS φ) r ds.toList
  | [], [], l, r, cs, hl, _, h => by
    simp only [fillA, Option.some.injEq] at h
    subst h
    exact ⟨cs, rfl, hl⟩
  | (i, a) :: parts, (j, v) :: vals, l, r, cs, hl, hp, h => by
    obtain ⟨⟨rfl, hav⟩, hp'⟩ := hp
    simp only [fillA] at h
    cases hpl : place i with
    | none => simp [hpl] at h
    | some os =>
      obtain ⟨off, size⟩ := os
      simp only [hpl] at h
      split at h
      · rename_i hc
        obtain ⟨hc1, hc2⟩ := hc
        have hcells := hav.cells
        have hlen : v.cells.size = size := by have := hcells.length_eq; simp at this; omega
        have hsz : cs.size = l.length := by have := hl.length_eq; simp at this; omega
        simp only [Instr.fill, hpl]
        rw [if_neg (by simp [hlen]; omega)]
        refine fill_rel ?_ hp' h
        have e := foldl_set cs off v.cells.toList 0 (by simp [hlen]; omega)
        have e' : (v.cells.zipIdx.foldl (fun cs (x : Value × Nat) => cs.setIfInBounds (off + x.2) x.1) cs).toList = cs.toList.take off ++ v.cells.toList ++ cs.toList.drop (off + v.cells.toList.length) := by
          rw [← Array.foldl_toList]
          simpa using e
        have := setAll_rel hl hcells off
        rw [← e'] at this
        exact this
      · cases h
  | [], _ :: _, _, _, _, _, hp, _ => hp.elim
  | _ :: _, [], _, _, _, _, hp, _ => hp.elim

theorem partsT_rel {ρ : Operand → TV} {e : Operand → Value} (hρ : ∀ x, relT φ (ρ x) (e x)) : ∀ {parts : List (Nat × Operand)} {ps : List (Nat × AV)}, partsT ρ parts = some ps →
    All2 (fun (a : Nat × AV) (b : Nat × Value) => a.1 = b.1 ∧ relA φ a.2 b.2) ps (parts.map fun x => (x.1, e x.2))
  | [], ps, h => by simp [partsT] at h; subst h; trivial
  | (i, x) :: rest, ps, h => by
    simp only [partsT] at h
    have hx := hρ x
    split at h
    · rename_i a ha
      rw [ha] at hx
      split at h
      · rename_i r hr
        obtain rfl := Option.some.inj h
        exact ⟨⟨rfl, hx⟩, partsT_rel hρ hr⟩
      · cases h
    · cases h

theorem placesT_run : ∀ {fs : List Field} {ps : List (Nat × Nat)}, placesT P fs = some ps → ∀ w, (fs.mapM fun f => Prod.mk f.offset <$> sizeOf f.type).run P w = .ok ps w
  | [], ps, h, w => by simp [placesT] at h; subst h; simp
  | f :: fs, ps, h, w => by
    simp only [placesT] at h
    split at h
    · rename_i n hn
      split at h
      · rename_i r hr
        obtain rfl := Option.some.inj h
        simp [List.mapM_cons, run_size hn, placesT_run hr]
      · cases h
    · cases h

theorem run_buildT {t : TypeId} {parts : List (Nat × AV)} {vals : Array (Nat × Value)} {tv : TV} (h : buildT P t parts = some tv)
    (hp : All2 (fun (a : Nat × AV) (b : Nat × Value) => a.1 = b.1 ∧ relA φ a.2 b.2) parts vals.toList) : ∃ v, relT φ tv v ∧ ∀ w, (Instr.build t vals).run P w = .ok v w := by
  unfold buildT at h
  cases hz : zeroT P t with
  | none => simp [hz] at h
  | some zero =>
    obtain ⟨i, z, hi, hzz, hrel⟩ := zeroT_rel (φ := φ) hz
    simp only [hz] at h
    have hzero : ∀ w, (zeroValue t).run P w = .ok z w := fun w => by simp [zeroValue, typeInfo, hi, hzz]
    split at h
    · rename_i fs hu
      split at h
      · rename_i ps hps
        obtain ⟨l, hl, rfl⟩ := Option.map_eq_some_iff.1 h
        obtain ⟨ds, hds, hr⟩ := fill_rel hrel hp hl
        refine ⟨.agg ds, ⟨ds, rfl, hr⟩, fun w => ?_⟩
        have hpl := placesT_run hps w
        have hpl' : (fs.mapM fun f => (do pure (f.offset, ← sizeOf f.type) : Sem (Nat × Nat))).run P w = .ok ps.toArray w := by
          rw [Array.mapM_eq_mapM_toList]
          simp only [Sem.run_map]
          have : (fun (f : Field) => (do pure (f.offset, ← sizeOf f.type) : Sem (Nat × Nat))) = fun (f : Field) => Prod.mk f.offset <$> sizeOf f.type := by
            funext f; rfl
          rw [this, hpl]
          rfl
        simp only [Instr.build, Sem.run_bind, hzero, Result.andThen_ok, run_underlying hu, hpl']
        have : (fun (x : Nat) => ps.toArray[x]?) = (fun (x : Nat) => ps[x]?) := by funext x; simp
        rw [this, hds]
        rfl
      · cases h
    · rename_i n e hu
      split at h
      · rename_i k hk
        obtain ⟨l, hl, rfl⟩ := Option.map_eq_some_iff.1 h
        obtain ⟨ds, hds, hr⟩ := fill_rel hrel hp hl
        refine ⟨.agg ds, ⟨ds, rfl, hr⟩, fun w => ?_⟩
        simp only [Instr.build, Sem.run_bind, hzero, Result.andThen_ok, run_underlying hu, run_size hk, hds]
        rfl
      · cases h
    · cases h

/-! ### parts and places -/

theorem run_fieldPlace {f : Field} {n : Nat} (a : Addr) (hn : sizeT P f.type = some n) (h0 : n ≠ 0) (w : World) : (fieldPlace a f).run P w = .ok (a.add f.offset) w := by
  simp [fieldPlace, run_size hn, h0]

theorem run_fieldAddrT {s : TypeId} {x tv : TV} {f : Nat} {a : Value} (h : fieldAddrT P s x f = some tv) (ha : relT φ x a) : ∃ v, relT φ tv v ∧ ∀ w, (Instr.fieldAt s a f).run P w = .ok v w := by
  unfold fieldAddrT at h
  split at h
  · rename_i fs hu
    split at h
    · rename_i fd hfd
      have hfd' : fs[f]? = some fd := by simpa using hfd
      split at h
      · cases h
      · rename_i n hn hz
        have hz' : n ≠ 0 := fun e => hn e
        split at h
        · obtain rfl := Option.some.inj h
          obtain ⟨L, hL, rfl⟩ := ha
          exact ⟨_, ⟨L, hL, rfl⟩, fun w => by simp [Instr.fieldAt, run_underlying hu, hfd', Instr.sureAddr, run_fieldPlace _ hz hz', add_zero_off, Nat.add_assoc]⟩
        · obtain rfl := Option.some.inj h
          obtain ⟨L, hL, hn, rfl⟩ := ha
          exact ⟨_, ⟨L, hL, hn, rfl⟩, fun w => by simp [Instr.fieldAt, run_underlying hu, hfd', Instr.sureAddr, run_fieldPlace _ hz hz', add_zero_off, Nat.add_assoc]⟩
        · obtain rfl := Option.some.inj h
          obtain ⟨L, hL, hj, hn, rfl⟩ := ha
          exact ⟨_, ⟨L, hL, hj, hn, rfl⟩, fun w => by simp [Instr.fieldAt, run_underlying hu, hfd', Instr.sureAddr, run_fieldPlace _ hz hz', add_zero_off, Nat.add_assoc]⟩
        · cases h
      · cases h
    · cases h
  · cases h

theorem run_fieldT {s : TypeId} {x tv : TV} {f : Nat} {a : Value} (h : fieldT P s x f = some tv) (ha : relT φ x a) : ∃ v, relT φ tv v ∧ ∀ w, (Instr.field s a f).run P w = .ok v w := by
  unfold fieldT at h
  split at h
  · rename_i fs hu
    split at h
    · rename_i fd hfd
      have hfd' : fs[f]? = some fd := by simpa using hfd
      split at h
      · obtain ⟨p, hp, rfl⟩ := Option.map_eq_some_iff.1 h
        obtain ⟨cs, rfl, hcs⟩ := ha
        obtain ⟨v, hv, hrun⟩ := run_part (P := P) hcs hp
        exact ⟨v, hv, fun w => by simp [Instr.field, run_underlying hu, hfd', asAgg, hrun]⟩
      · cases h
    · cases h
  · cases h

theorem within_spec {i : Int} {n : Nat} (h : within i n = true) : 0 ≤ i ∧ i < (n : Int) := by
  simpa [within] using h

theorem run_indexAddrT {y : Option Nat} {t : TypeId} {x ix tv : TV} {a b : Value} (h : (indexAddrT P y t x ix).val = some tv) (ha : relT φ x a) (hb : relT φ ix b) :
    ∃ v, relT φ tv v ∧ ∀ w, (Instr.indexAt t a b).run P w = .ok v w := by
  unfold indexAddrT at h
  split at h
  · rename_i k i
    simp only [relT, relA, relS] at hb
    subst hb
    split at h
    · rename_i len e hu
      split at h
      · rename_i n hn
        split at h
        · obtain ⟨hc, h⟩ := val_chk h
          obtain rfl := val_ok h
          obtain ⟨h0, h1⟩ := within_spec hc
          obtain ⟨L, hL, rfl⟩ := ha
          exact ⟨_, ⟨L, hL, rfl⟩, fun w => by simp [Instr.indexAt, run_underlying hu, asIntOf, Instr.sureAddr, h0, h1, run_size hn, add_zero_off, Nat.add_assoc]⟩
        · obtain ⟨hc, h⟩ := val_chk h
          obtain rfl := val_ok h
          obtain ⟨h0, h1⟩ := within_spec hc
          obtain ⟨L, hL, hnn, rfl⟩ := ha
          exact ⟨_, ⟨L, hL, hnn, rfl⟩, fun w => by simp [Instr.indexAt, run_underlying hu, asIntOf, Instr.sureAddr, h0, h1, run_size hn, add_zero_off, Nat.add_assoc]⟩
        · simp [Tr.val] at h
      · simp [Tr.val] at h
    · rename_i e hu
      split at h
      · rename_i n hn
        split at h
        · split at h
          · rename_i hwd
            subst hwd
            obtain ⟨hc, h⟩ := val_chk h
            obtain rfl := val_ok h
            obtain ⟨h0, h1⟩ := within_spec hc
            rcases ha with ⟨h2, _⟩ | ⟨L, cap, hL, hle, rfl⟩
            · omega
            · exact ⟨_, ⟨L, hL, rfl⟩, fun w => by simp [Instr.indexAt, run_underlying hu, asIntOf, h0, h1, run_size hn, add_zero_off, Nat.add_assoc]⟩
          · simp [Tr.val] at h
        · split at h
          · rename_i hwd
            subst hwd
            obtain ⟨hc, h⟩ := val_chk h
            obtain rfl := val_ok h
            obtain ⟨h0, h1⟩ := within_spec hc
            rcases ha with ⟨h2, _⟩ | ⟨L, cap, hL, hle, hcp, hnn, hsz, rfl⟩
            · omega
            · exact ⟨_, ⟨L, hL, by omega, rfl⟩, fun w => by simp [Instr.indexAt, run_underlying hu, asIntOf, h0, h1, run_size hn, add_zero_off, Nat.add_assoc, Nat.add_mul]⟩
          · simp [Tr.val] at h
        · split at h
          · rename_i hwd
            subst hwd
            obtain ⟨hc, h⟩ := val_chk h
            obtain rfl := val_ok h
            obtain ⟨h0, h1⟩ := within_spec hc
            rcases ha with ⟨h2, _⟩ | ⟨L, hL, hnn, hsz, rfl⟩
            · omega
            · exact ⟨_, ⟨L, hL, by omega, rfl⟩, fun w => by simp [Instr.indexAt, run_underlying hu, asIntOf, h0, h1, run_size hn, add_zero_off, Nat.add_assoc, Nat.add_mul]⟩
          · simp [Tr.val] at h
        · split at h
          · rename_i hwd
            subst hwd
            obtain ⟨hc, h⟩ := val_chk h
            obtain rfl := val_ok h
            obtain ⟨h0, h1⟩ := within_spec hc
            rcases ha with ⟨h2, _⟩ | ⟨L, cap, hL, hle, hnn, rfl⟩
            · omega
            · exact ⟨_, ⟨L, hL, by omega, rfl⟩, fun w => by simp [Instr.indexAt, run_underlying hu, asIntOf, h0, h1, run_size hn, add_zero_off, Nat.add_assoc, Nat.add_mul]⟩
          · simp [Tr.val] at h
        · split at h
          · rename_i hwd
            subst hwd
            obtain ⟨hc, h⟩ := val_chk h
            obtain rfl := val_ok h
            obtain ⟨h0, h1⟩ := within_spec hc
            obtain ⟨L, hL, hn', ha⟩ := ha
            rcases ha with ⟨h2, _⟩ | ⟨cap, hle, hsz, rfl⟩
            · omega
            · exact ⟨_, ⟨L, hL, by omega, rfl⟩, fun w => by simp [Instr.indexAt, run_underlying hu, asIntOf, h0, h1, run_size hn, add_zero_off]⟩
          · simp [Tr.val] at h
        · simp [Tr.val] at h
      · simp [Tr.val] at h
    · simp [Tr.val] at h
  · simp [Tr.val] at h

theorem run_indexT {y : Option Nat} {t : TypeId} {x ix tv : TV} {a b : Value} (h : (indexT P y t x ix).val = some tv) (ha : relT φ x a) (hb : relT φ ix b) :
    ∃ v, relT φ tv v ∧ ∀ w, (Instr.index t a b).run P w = .ok v w := by
  unfold indexT at h
  split at h
  · rename_i k i
    simp only [relT, relA, relS] at hb
    subst hb
    split at h
    · rename_i len e hu
      split at h
      · rename_i n hn
        split at h
        · obtain ⟨hc, h⟩ := val_chk h
          rw [val_opt] at h
          obtain ⟨p, hp, rfl⟩ := Option.map_eq_some_iff.1 h
          obtain ⟨h0, h1⟩ := within_spec hc
          obtain ⟨cs, rfl, hcs⟩ := ha
          obtain ⟨v, hv, hrun⟩ := run_part (P := P) hcs hp
          exact ⟨v, hv, fun w => by simp [Instr.index, run_underlying hu, asIntOf, h0, h1, run_size hn, hrun]⟩
        · simp [Tr.val] at h
      · simp [Tr.val] at h
    · simp [Tr.val] at h
  · simp [Tr.val] at h

/-! ### slices -/

/-! ### one of several equal parts -/

theorem asInt_mk {sk : SK} {a : AS} {x : Int} (h : asInt sk a = some x) : mkS sk x = a := by
  unfold asInt at h
  split at h
  · split at h
    · rename_i hk; subst hk; obtain rfl := Option.some.inj h; rfl
    · cases h
  · rename_i y
    obtain rfl := Option.some.inj h
    cases y <;> rfl
  · cases h

theorem colI_get {sk : SK} {l : List AS} {n : Nat} : ∀ {len o : Nat} {xs : List Int}, colI sk l n len o = some xs → xs.length = len ∧ ∀ j, j < len → l[o + j * n]? = some (mkS sk (xs.getD j 0))
  | 0, o, xs, h => by simp [colI] at h; subst h; exact ⟨rfl, fun j hj => by omega⟩
  | m + 1, o, xs, h => by
    simp only [colI] at h
    split at h
    · rename_i a ha
      split at h
      · rename_i x hx
        split at h
        · rename_i ys hys
          obtain rfl := Option.some.inj h
          obtain ⟨h1, h2⟩ := colI_get hys
          refine ⟨by simp [h1], fun j hj => ?_⟩
          cases j with
          | zero => simp only [Nat.zero_mul, Nat.add_zero, List.getD_cons_zero]; rw [asInt_mk hx]; exact ha
          | succ j =>
            rw [List.getD_cons_succ, ← h2 j (by omega)]
            congr 1
            rw [Nat.add_mul]; omega
        · cases h
      · cases h
    · cases h

theorem selS_get {l : List AS} {o n len j : Nat} {a : AS} (h : selS l o n len j = some a) (hj : j < len) : l[o + j * n]? = some a := by
  unfold selS at h
  split at h
  · split at h
    · split at h
      · rename_i xs hxs
        obtain rfl := Option.some.inj h
        exact (colI_get hxs).2 j hj
      · cases h
    · cases h
  · cases h

theorem selSs_get {l : List AS} {n len j : Nat} (hj : j < len) : ∀ {m o : Nat} {r : List AS}, selSs l n len j m o = some r → r = (l.drop (o + j * n)).take m ∧ (m ≠ 0 → o + j * n + m ≤ l.length)
  | 0, o, r, h => by simp [selSs] at h; subst h; simp
  | m + 1, o, r, h => by
    simp only [selSs] at h
    split at h
    · rename_i a ha
      split at h
      · rename_i r' hr
        obtain rfl := Option.some.inj h
        have e1 := selS_get ha hj
        obtain ⟨e2, e3⟩ := selSs_get hj hr
        have hlt : o + j * n < l.length := (List.getElem?_eq_some_iff.1 e1).1
        refine ⟨?_, fun _ => ?_⟩
        · rw [List.drop_eq_getElem_cons hlt, List.take_succ_cons]
          have : l[o + j * n] = a := by rw [List.getElem?_eq_getElem hlt] at e1; exact Option.some.inj e1
          rw [this, e2, show o + 1 + j * n = o + j * n + 1 by omega]
        · rcases Nat.eq_zero_or_pos m with h0 | h0
          · omega
          · have := e3 (by omega); omega
      · cases h
    · cases h

theorem colI_set {sk : SK} {n : Nat} (a : AS) (p : Nat) : ∀ {len o : Nat} {l : List AS}, p < o → colI sk (l.set p a) n len o = colI sk l n len o
  | 0, _, _, _ => rfl
  | m + 1, o, l, hp => by
    simp only [colI]
    rw [List.getElem?_set_ne (by omega), colI_set a p (by omega)]

theorem set_same {l : List AS} {o : Nat} {a : AS} (h : l[o]? = some a) : l.set o a = l := by
  obtain ⟨hlt, rfl⟩ := List.getElem?_eq_some_iff.1 h
  exact List.set_getElem_self hlt

theorem putCol_eq {sk : SK} {n j : Nat} {x : Int} (hn : n ≠ 0) : ∀ {xs : List Int} {j' o : Nat} {l : List AS}, colI sk l n xs.length o = some xs →
    putCol sk n j x xs j' o l = if j' ≤ j ∧ j < j' + xs.length then l.set (o + (j - j') * n) (mkS sk x) else l
  | [], j', o, l, _ => by simp only [putCol, List.length_nil]; rw [if_neg (by omega)]
  | y :: ys, j', o, l, h => by
    simp only [colI, List.length_cons] at h
    split at h
    · rename_i a ha
      split at h
      · rename_i x' hx
        split at h
        · rename_i ys' hys
          obtain ⟨rfl, rfl⟩ := List.cons.inj (Option.some.inj h)
          simp only [putCol]
          rw [putCol_eq hn (by rw [colI_set _ _ (by omega)]; exact hys)]
          by_cases e : j = j'
          · subst e
            simp only [List.length_cons]
            rw [if_neg (by omega), if_pos (by omega)]
            simp
          · have hb : Nat.beq j j' = false := by
              cases hb : Nat.beq j j' with
              | false => rfl
              | true => exact (e (Nat.eq_of_beq_eq_true hb)).elim
            rw [hb, cond_false, asInt_mk hx, set_same ha]
            simp only [List.length_cons]
            by_cases hc : j' + 1 ≤ j ∧ j < j' + 1 + ys'.length
            · rw [if_pos hc, if_pos (by omega)]
              congr 1
              obtain ⟨k, rfl⟩ : ∃ k, j = j' + 1 + k := ⟨j - (j' + 1), by omega⟩
              rw [show j' + 1 + k - (j' + 1) = k by omega, show j' + 1 + k - j' = k + 1 by omega, Nat.add_mul]
              omega
            · rw [if_neg hc, if_neg (by omega)]
        · cases h
      · cases h
    · cases h

theorem setX_eq {l l' : List AS} {o n len j : Nat} {a : AS} (hn : n ≠ 0) (hj : j < len) (h : setX l o n len j a = some l') : l' = l.set (o + j * n) a ∧ o + j * n < l.length := by
  unfold setX at h
  split at h
  · split at h
    · rename_i sk _
      split at h
      · rename_i x hx
        split at h
        · rename_i xs hxs
          obtain rfl := Option.some.inj h
          obtain ⟨e1, e2⟩ := colI_get hxs
          have := e2 j hj
          refine ⟨?_, (List.getElem?_eq_some_iff.1 this).1⟩
          rw [putCol_eq hn (by rw [e1]; exact hxs), if_pos (by omega), asInt_mk hx]
          simp
        · cases h
      · cases h
    · cases h
  · cases h

theorem setAll_cons {l : List AS} {o : Nat} {a : AS} {as : List AS} (h : o < l.length) : setAll l o (a :: as) = setAll (l.set o a) (o + 1) as := by
  unfold setAll
  have e1 : (l.set o a).take (o + 1) = l.take o ++ [a] := by
    rw [List.take_add_one, List.take_set_of_le (Nat.le_refl o)]
    simp [h]
  have e2 : (l.set o a).drop (o + 1 + as.length) = l.drop (o + (a :: as).length) := by
    rw [List.drop_set_of_lt (by omega)]
    congr 1
    simp only [List.length_cons]; omega
  rw [e1, e2]
  simp

theorem setAll_nil {l : List AS} {o : Nat} (h : o ≤ l.length) : setAll l o [] = l := by simp [setAll]

theorem setXs_eq {n len j : Nat} (hn : n ≠ 0) (hj : j < len) : ∀ {vs : List AS} {o : Nat} {l l' : List AS}, setXs n len j vs o l = some l' → vs ≠ [] → l' = setAll l (o + j * n) vs ∧ o + j * n + vs.length ≤ l.length
  | [], _, _, _, _, h0 => (h0 rfl).elim
  | a :: as, o, l, l', h, _ => by
    simp only [setXs] at h
    split at h
    · rename_i l1 hl1
      obtain ⟨rfl, e2⟩ := setX_eq hn hj hl1
      rcases as with _ | ⟨b, bs⟩
      · simp only [setXs, Option.some.injEq] at h
        subst h
        refine ⟨?_, by simp; omega⟩
        rw [setAll_cons e2, setAll_nil (by simp; omega)]
      · obtain ⟨e3, e4⟩ := setXs_eq hn hj h (by simp)
        simp only [List.length_set] at e4
        refine ⟨?_, by simp only [List.length_cons] at e4 ⊢; omega⟩
        rw [e3, setAll_cons e2, show o + 1 + j * n = o + j * n + 1 by omega]
    · cases h

theorem run_indexAddrX {y : Option Nat} {t : TypeId} {x ix tv : TV} {a b : Value} (h : (indexAddrX P y t x ix).val = some tv) (ha : relT φ x a) (hb : relT φ ix b) :
    ∃ v, relT φ tv v ∧ ∀ w, (Instr.indexAt t a b).run P w = .ok v w := by
  unfold indexAddrX at h
  split at h
  · rename_i k i
    simp only [relT, relA, relS] at hb
    subst hb
    split at h
    · rename_i len e hu
      split at h
      · rename_i n hn
        split at h
        · split at h
          · simp [Tr.val] at h
          obtain ⟨hc, h⟩ := val_chk h
          obtain rfl := val_ok h
          obtain ⟨h0, h1⟩ := within_spec hc
          obtain ⟨L, hL, rfl⟩ := ha
          refine ⟨_, ⟨L, hL, by omega, .inl rfl, rfl⟩, fun w => by simp [Instr.indexAt, run_underlying hu, asIntOf, Instr.sureAddr, h0, h1, run_size hn, add_zero_off, Nat.add_assoc]⟩
        · split at h
          · simp [Tr.val] at h
          obtain ⟨hc, h⟩ := val_chk h
          obtain rfl := val_ok h
          obtain ⟨h0, h1⟩ := within_spec hc
          obtain ⟨L, hL, hnn, rfl⟩ := ha
          exact ⟨_, ⟨L, hL, by omega, .inr hnn, rfl⟩, fun w => by simp [Instr.indexAt, run_underlying hu, asIntOf, Instr.sureAddr, h0, h1, run_size hn, add_zero_off, Nat.add_assoc]⟩
        · simp [Tr.val] at h
      · simp [Tr.val] at h
    · rename_i e hu
      split at h
      · rename_i n hn
        split at h
        · split at h
          · rename_i hwd
            obtain ⟨rfl, hn0⟩ := hwd
            obtain ⟨hc, h⟩ := val_chk h
            obtain rfl := val_ok h
            obtain ⟨h0, h1⟩ := within_spec hc
            rcases ha with ⟨h2, _⟩ | ⟨L, cap, hL, hle, rfl⟩
            · omega
            · exact ⟨_, ⟨L, hL, by omega, .inl rfl, rfl⟩, fun w => by simp [Instr.indexAt, run_underlying hu, asIntOf, h0, h1, run_size hn, add_zero_off, Nat.add_assoc]⟩
          · simp [Tr.val] at h
        · simp [Tr.val] at h
      · simp [Tr.val] at h
    · simp [Tr.val] at h
  · simp [Tr.val] at h

theorem run_indexAddrS {y : Option Nat} {t : TypeId} {x ix tv : TV} {a b : Value} (h : (indexAddrS P y t x ix).val = some tv) (ha : relT φ x a) (hb : relT φ ix b) :
    ∃ v, relT φ tv v ∧ ∀ w, (Instr.indexAt t a b).run P w = .ok v w := by
  unfold indexAddrS at h
  split at h
  · exact run_indexAddrX h ha hb
  · exact run_indexAddrT h ha hb

theorem partX_part {e : TypeId} {l : List AS} {n len j : Nat} {a : AV} (hn : sizeT P e = some n) (hj : j < len) (h : partX P e l n len j = some a) : partA P e l (j * n) = some a := by
  unfold partX at h
  unfold partA
  split at h
  · rename_i hag
    obtain ⟨r, hr, rfl⟩ := Option.map_eq_some_iff.1 h
    obtain ⟨rfl, _⟩ := selSs_get hj hr
    simp only [hag, hn, Nat.zero_add]
  · rename_i hag
    obtain ⟨r, hr, rfl⟩ := Option.map_eq_some_iff.1 h
    have := selS_get hr hj
    rw [Nat.zero_add] at this
    simp only [hag, this, Option.map_some]
  · cases h

theorem run_indexX {y : Option Nat} {t : TypeId} {x ix tv : TV} {a b : Value} (h : (indexX P y t x ix).val = some tv) (ha : relT φ x a) (hb : relT φ ix b) :
    ∃ v, relT φ tv v ∧ ∀ w, (Instr.index t a b).run P w = .ok v w := by
  refine run_indexT (y := none) ?_ ha hb
  unfold indexX at h
  unfold indexT
  split at h
  · split at h
    · rename_i len e hu
      split at h
      · rename_i n hn
        split at h
        · obtain ⟨hc, h⟩ := val_chk h
          rw [val_opt] at h
          obtain ⟨p, hp, rfl⟩ := Option.map_eq_some_iff.1 h
          obtain ⟨h0, h1⟩ := within_spec hc
          have := partX_part hn (by omega) hp
          simp only [hu, hn, this, hc, chk, Option.map_some, opt, Tr.val]
        · simp [Tr.val] at h
      · simp [Tr.val] at h
    · simp [Tr.val] at h
  · simp [Tr.val] at h

theorem run_indexS {y : Option Nat} {t : TypeId} {x ix tv : TV} {a b : Value} (h : (indexS P y t x ix).val = some tv) (ha : relT φ x a) (hb : relT φ ix b) :
    ∃ v, relT φ tv v ∧ ∀ w, (Instr.index t a b).run P w = .ok v w := by
  unfold indexS at h
  split at h
  · exact run_indexX h ha hb
  · exact run_indexT h ha hb

theorem intT_rel {x : TV} {v : Value} {i : Int} (h : intT x = some i) (hx : relT φ x v) : ∃ k, v = .int k i := by
  unfold intT at h
  split at h
  · rename_i k j
    obtain rfl := Option.some.inj h
    exact ⟨k, hx⟩
  · cases h

theorem run_sliceBound_in {k : IntKind} {i : Int} {y : Nat} (code : BoundsCode) (h0 : 0 ≤ i) (h1 : i ≤ (y : Int)) (w : World) : (Instr.sliceBound (.int k i) y code).run P w = .ok i.toNat w := by
  simp [Instr.sliceBound, asIntOf, h0, h1]

theorem run_sliceBounds {lo hi mx : Option TV} {lo' hi' mx' : Option Value} {len cp cap : Nat} {l h m : Int} (isS : Bool) (hb : boundsT lo hi mx len cp = some (l, h, m)) (hok : boundsOk hi.isSome mx.isSome len cp l h m = true)
    (hlo : ∀ x, lo = some x → ∃ v, lo' = some v ∧ relT φ x v) (hhi : ∀ x, hi = some x → ∃ v, hi' = some v ∧ relT φ x v) (hmx : ∀ x, mx = some x → ∃ v, mx' = some v ∧ relT φ x v)
    (nlo : lo = none → lo' = none) (nhi : hi = none → hi' = none) (nmx : mx = none → mx' = none) (hl : len ≤ cp) (hc : cp ≤ cap) :
    ∃ m' : Nat, l.toNat ≤ h.toNat ∧ h.toNat ≤ m' ∧ m' ≤ cap ∧ h.toNat ≤ cp ∧ (mx = none → m' = cap) ∧ (mx ≠ none → m' = h.toNat) ∧ ∀ w, (Instr.sliceBounds isS len cap lo' hi' mx').run P w = .ok (l.toNat, h.toNat, m') w := by
  unfold boundsT at hb
  cases mx with
  | some xm =>
    obtain ⟨vm, rfl, rm⟩ := hmx xm rfl
    cases hi with
    | none => cases hm : intT xm <;> simp [hm] at hb
    | some xh =>
      obtain ⟨vh, rfl, rh⟩ := hhi xh rfl
      cases hm : intT xm with
      | none => simp [hm] at hb
      | some m0 =>
        cases hh : intT xh with
        | none => simp [hm, hh] at hb
        | some h' =>
          obtain ⟨km, rfl⟩ := intT_rel hm rm
          obtain ⟨kh, rfl⟩ := intT_rel hh rh
          cases lo with
          | none =>
            rw [nlo rfl]
            simp [hm, hh] at hb
            obtain ⟨rfl, rfl, rfl⟩ := hb
            simp [boundsOk] at hok
            obtain ⟨⟨h1, h2⟩, h3⟩ := hok
            subst h2
            refine ⟨m0.toNat, by omega, by omega, by omega, by omega, by simp, by simp, fun w => ?_⟩
            simp only [Instr.sliceBounds, Sem.run_bind, Sem.run_pure, Result.andThen_ok, run_sliceBound_in _ (show 0 ≤ m0 by omega) (show m0 ≤ (cap : Int) by omega), run_sliceBound_in _ (show 0 ≤ m0 by omega) (show m0 ≤ ((m0.toNat : Nat) : Int) by omega)]; rfl
          | some xl =>
            obtain ⟨vl, rfl, rl⟩ := hlo xl rfl
            cases hl : intT xl with
            | none => simp [hm, hh, hl] at hb
            | some l' =>
              obtain ⟨kl, rfl⟩ := intT_rel hl rl
              simp [hm, hh, hl] at hb
              obtain ⟨rfl, rfl, rfl⟩ := hb
              simp [boundsOk] at hok
              obtain ⟨⟨⟨h0, h1⟩, h2⟩, h3⟩ := hok
              subst h2
              refine ⟨m0.toNat, by omega, by omega, by omega, by omega, by simp, by simp, fun w => ?_⟩
              simp only [Instr.sliceBounds, Sem.run_bind, Sem.run_pure, Result.andThen_ok, run_sliceBound_in _ (show 0 ≤ m0 by omega) (show m0 ≤ (cap : Int) by omega), run_sliceBound_in _ (show 0 ≤ m0 by omega) (show m0 ≤ ((m0.toNat : Nat) : Int) by omega), run_sliceBound_in _ h0 (show l' ≤ ((m0.toNat : Nat) : Int) by omega)]
  | none =>
    rw [nmx rfl]
    cases hi with
    | none =>
      rw [nhi rfl]
      cases lo with
      | none =>
        rw [nlo rfl]
        simp at hb
        obtain ⟨rfl, rfl, rfl⟩ := hb
        refine ⟨cap, by omega, by omega, Nat.le_refl _, by omega, by simp, by simp, fun w => ?_⟩
        simp [Instr.sliceBounds]
      | some xl =>
        obtain ⟨vl, rfl, rl⟩ := hlo xl rfl
        cases hl : intT xl with
        | none => simp [hl] at hb
        | some l' =>
          obtain ⟨kl, rfl⟩ := intT_rel hl rl
          simp [hl] at hb
          obtain ⟨rfl, rfl, rfl⟩ := hb
          simp [boundsOk] at hok
          refine ⟨cap, by omega, by omega, Nat.le_refl _, by omega, by simp, by simp, fun w => ?_⟩
          simp only [Instr.sliceBounds, Sem.run_bind, Sem.run_pure, Result.andThen_ok, run_sliceBound_in _ hok.1 hok.2]
          rfl
    | some xh =>
      obtain ⟨vh, rfl, rh⟩ := hhi xh rfl
      cases hh : intT xh with
      | none => simp [hh] at hb
      | some h' =>
        obtain ⟨kh, rfl⟩ := intT_rel hh rh
        cases lo with
        | none =>
          rw [nlo rfl]
          simp [hh] at hb
          obtain ⟨rfl, rfl, rfl⟩ := hb
          simp [boundsOk] at hok
          obtain ⟨h1, h2⟩ := hok
          refine ⟨cap, by omega, by omega, Nat.le_refl _, by omega, by simp, by simp, fun w => ?_⟩
          simp only [Instr.sliceBounds, Sem.run_bind, Sem.run_pure, Result.andThen_ok, run_sliceBound_in _ h1 (show h' ≤ (cap : Int) by omega)]
          rfl
        | some xl =>
          obtain ⟨vl, rfl, rl⟩ := hlo xl rfl
          cases hl : intT xl with
          | none => simp [hh, hl] at hb
          | some l' =>
            obtain ⟨kl, rfl⟩ := intT_rel hl rl
            simp [hh, hl] at hb
            obtain ⟨rfl, rfl, rfl⟩ := hb
            simp [boundsOk] at hok
            obtain ⟨⟨h0, h1⟩, h2⟩ := hok
            refine ⟨cap, by omega, by omega, Nat.le_refl _, by omega, by simp, by simp, fun w => ?_⟩
            simp only [Instr.sliceBounds, Sem.run_bind, Sem.run_pure, Result.andThen_ok, run_sliceBound_in _ (show 0 ≤ h' by omega) (show h' ≤ (cap : Int) by omega), run_sliceBound_in _ h0 (show l' ≤ ((h'.toNat : Nat) : Int) by omega)]

theorem map_some {α β : Type} {f : α → β} {o : Option α} {x : α} {R : β → Prop} (h : o = some x) (hr : R (f x)) : ∃ v, o.map f = some v ∧ R v := by
  subst h; exact ⟨_, rfl, hr⟩

theorem run_sliceT {y : Option Nat} {t : TypeId} {x tv : TV} {lo hi mx : Option Operand} {ρ : Operand → TV} {e : Operand → Value} (hρ : ∀ x, relT φ (ρ x) (e x)) {a : Value}
    (h : (sliceT P y t x (lo.map ρ) (hi.map ρ) (mx.map ρ)).val = some tv) (ha : relT φ x a) : ∃ v, relT φ tv v ∧ ∀ w, (Instr.sliceAt t a (lo.map e) (hi.map e) (mx.map e)).run P w = .ok v w := by
  have hb : ∀ {len cp cap : Nat} {l h m : Int} (isS : Bool), boundsT (lo.map ρ) (hi.map ρ) (mx.map ρ) len cp = some (l, h, m) → boundsOk (hi.map ρ).isSome (mx.map ρ).isSome len cp l h m = true → len ≤ cp → cp ≤ cap →
      ∃ m' : Nat, l.toNat ≤ h.toNat ∧ h.toNat ≤ m' ∧ m' ≤ cap ∧ h.toNat ≤ cp ∧ (mx.map ρ = none → m' = cap) ∧ (mx.map ρ ≠ none → m' = h.toNat) ∧ ∀ w, (Instr.sliceBounds isS len cap (lo.map e) (hi.map e) (mx.map e)).run P w = .ok (l.toNat, h.toNat, m') w := by
    intro len cp cap l h m isS h1 h2 h3 h4
    have g : ∀ (o : Option Operand) (x : TV), o.map ρ = some x → ∃ v, o.map e = some v ∧ relT φ x v := by
      intro o x hx
      obtain ⟨z, rfl, rfl⟩ := Option.map_eq_some_iff.1 hx
      exact ⟨_, rfl, hρ z⟩
    have g' : ∀ (o : Option Operand), o.map ρ = none → o.map e = none := by
      intro o hx
      have := Option.map_eq_none_iff.1 hx
      subst this; rfl
    exact run_sliceBounds isS h1 h2 (g lo) (g hi) (g mx) (g' lo) (g' hi) (g' mx) h3 h4
  generalize hmx : mx.map ρ = mxT at h hb
  unfold sliceT at h
  split at h
  · rename_i n el hu
    split at h
    · rename_i wd hwd
      split at h
      · rename_i id o l hh m hbd
        obtain ⟨hc, h⟩ := val_chk h
        obtain rfl := val_ok h
        obtain ⟨L, hL, rfl⟩ := ha
        obtain ⟨m', h0, h1, h2, h3, h4, h5, hrun⟩ := hb false hbd hc (Nat.le_refl n) (Nat.le_refl n)
        by_cases e1 : m' = l.toNat
        · refine ⟨.slice (some ⟨L.b, L.base + o, none⟩) 0 0, .inl ⟨by omega, _, rfl⟩, fun w => ?_⟩
          simp [Instr.sliceAt, run_underlying hu, Instr.sureAddr, hrun, run_size hwd, e1]
          omega
        · refine ⟨.slice (some ⟨L.b, L.base + (o + l.toNat * wd), none⟩) (hh.toNat - l.toNat) (m' - l.toNat), .inr ⟨L, m' - l.toNat, hL, by omega, rfl⟩, fun w => ?_⟩
          simp [Instr.sliceAt, run_underlying hu, Instr.sureAddr, hrun, run_size hwd, e1, add_zero_off, Nat.add_assoc]
      · simp [Tr.val] at h
    · simp [Tr.val] at h
  · rename_i el hu
    split at h
    · rename_i wd hwd
      split at h
      · rename_i id wd' o len
        split at h
        · rename_i l hh m hbd
          split at h
          · rename_i hw
            subst hw
            obtain ⟨hc, h⟩ := val_chk h
            obtain rfl := val_ok h
            rcases ha with ⟨h2, a0, rfl⟩ | ⟨L, cap, hL, hle, rfl⟩
            · subst h2
              obtain ⟨m', h0, h1, h2', h3, h4, h5, hrun⟩ := hb true hbd hc (Nat.le_refl 0) (Nat.le_refl 0)
              refine ⟨.slice a0 0 0, .inl ⟨by omega, a0, rfl⟩, fun w => ?_⟩
              have e1 : m' = l.toNat := by omega
              simp [Instr.sliceAt, Instr.slice, run_underlying hu, hrun, run_size hwd, e1]
              omega
            · obtain ⟨m', h0, h1, h2', h3, h4, h5, hrun⟩ := hb true hbd hc (Nat.le_refl _) hle
              by_cases e1 : m' = l.toNat
              · refine ⟨.slice (some ⟨L.b, L.base + o, none⟩) 0 0, .inl ⟨by omega, _, rfl⟩, fun w => ?_⟩
                simp [Instr.sliceAt, Instr.slice, run_underlying hu, hrun, run_size hwd, e1]
                omega
              · refine ⟨.slice (some ⟨L.b, L.base + (o + l.toNat * wd), none⟩) (hh.toNat - l.toNat) (m' - l.toNat), .inr ⟨L, m' - l.toNat, hL, by omega, rfl⟩, fun w => ?_⟩
                simp [Instr.sliceAt, Instr.slice, run_underlying hu, hrun, run_size hwd, e1, add_zero_off, Nat.add_assoc]
          · simp [Tr.val] at h
        · simp [Tr.val] at h
      · rename_i id wd' r len cp
        split at h
        · rename_i l hh m hbd
          split at h
          · rename_i hw
            subst hw
            obtain ⟨hc, h⟩ := val_chk h
            obtain rfl := val_ok h
            rcases ha with ⟨h2, h2c, a0, rfl⟩ | ⟨L, cap, hL, hle, hcp, hnn, hsz, rfl⟩
            · subst h2; subst h2c
              obtain ⟨m', h0, h1, h2', h3, h4, h5, hrun⟩ := hb true hbd hc (Nat.le_refl 0) (Nat.le_refl 0)
              refine ⟨.slice a0 0 0, ?_, fun w => ?_⟩
              · cases mxT with
                | none => exact .inl ⟨by omega, by omega, a0, rfl⟩
                | some _ => exact .inl ⟨by omega, a0, rfl⟩
              · have e1 : m' = l.toNat := by omega
                simp [Instr.sliceAt, Instr.slice, run_underlying hu, hrun, run_size hwd, e1]
                omega
            · obtain ⟨m', h0, h1, h2', h3, h4, h5, hrun⟩ := hb true hbd hc hle hcp
              by_cases e1 : m' = l.toNat
              · refine ⟨.slice (some ⟨L.b, L.base + r * wd, none⟩) 0 0, ?_, fun w => ?_⟩
                · cases mxT with
                  | none => exact .inl ⟨by omega, by have := h4 rfl; omega, _, rfl⟩
                  | some _ => exact .inl ⟨by omega, _, rfl⟩
                · simp [Instr.sliceAt, Instr.slice, run_underlying hu, hrun, run_size hwd, e1]
                  omega
              · have hle2 : (r + l.toNat + (m' - l.toNat)) * wd ≤ (r + cap) * wd := Nat.mul_le_mul_right _ (by omega)
                refine ⟨.slice (some ⟨L.b, L.base + (r + l.toNat) * wd, none⟩) (hh.toNat - l.toNat) (m' - l.toNat), ?_, fun w => ?_⟩
                · cases mxT with
                  | none => exact .inr ⟨L, m' - l.toNat, hL, by omega, by have := h4 rfl; omega, by omega, by omega, rfl⟩
                  | some _ =>
                    have := h5 (by simp)
                    exact .inr ⟨L, hL, by omega, by rw [← this]; omega, by rw [this]⟩
                · simp [Instr.sliceAt, Instr.slice, run_underlying hu, hrun, run_size hwd, e1, add_zero_off, Nat.add_assoc, Nat.add_mul]
          · simp [Tr.val] at h
        · simp [Tr.val] at h
      · rename_i id wd' len
        have ha := slr_of_slw ha
        split at h
        · rename_i l hh m hbd
          split at h
          · rename_i hw
            subst hw
            obtain ⟨hc, h⟩ := val_chk h
            obtain rfl := val_ok h
            rcases ha with ⟨h2, h2c, a0, rfl⟩ | ⟨L, cap, hL, hle, hcp, hnn, hsz, rfl⟩
            · subst h2
              obtain ⟨m', h0, h1, h2', h3, h4, h5, hrun⟩ := hb true hbd hc (Nat.le_refl 0) (Nat.le_refl 0)
              refine ⟨.slice a0 0 0, ?_, fun w => ?_⟩
              · cases mxT with
                | none => exact .inl ⟨by omega, by omega, a0, rfl⟩
                | some _ => exact .inl ⟨by omega, a0, rfl⟩
              · have e1 : m' = l.toNat := by omega
                simp [Instr.sliceAt, Instr.slice, run_underlying hu, hrun, run_size hwd, e1]
                omega
            · obtain ⟨m', h0, h1, h2', h3, h4, h5, hrun⟩ := hb true hbd hc hle hcp
              by_cases e1 : m' = l.toNat
              · refine ⟨.slice (some ⟨L.b, L.base + 0 * wd, none⟩) 0 0, ?_, fun w => ?_⟩
                · cases mxT with
                  | none => exact .inl ⟨by omega, by have := h4 rfl; omega, _, rfl⟩
                  | some _ => exact .inl ⟨by omega, _, rfl⟩
                · simp [Instr.sliceAt, Instr.slice, run_underlying hu, hrun, run_size hwd, e1]
                  omega
              · have hle2 : (0 + l.toNat + (m' - l.toNat)) * wd ≤ (0 + cap) * wd := Nat.mul_le_mul_right _ (by omega)
                refine ⟨.slice (some ⟨L.b, L.base + (0 + l.toNat) * wd, none⟩) (hh.toNat - l.toNat) (m' - l.toNat), ?_, fun w => ?_⟩
                · cases mxT with
                  | none => exact .inr ⟨L, m' - l.toNat, hL, by omega, by have := h4 rfl; omega, by omega, by omega, rfl⟩
                  | some _ =>
                    have := h5 (by simp)
                    exact .inr ⟨L, hL, by omega, by rw [← this]; omega, by rw [this]⟩
                · simp [Instr.sliceAt, Instr.slice, run_underlying hu, hrun, run_size hwd, e1, add_zero_off, Nat.add_assoc, Nat.add_mul]
          · simp [Tr.val] at h
        · simp [Tr.val] at h
      · rename_i id wd' r len
        split at h
        · rename_i l hh m hbd
          split at h
          · rename_i hw
            subst hw
            obtain ⟨hc, h⟩ := val_chk h
            obtain rfl := val_ok h
            rcases ha with ⟨h2, a0, rfl⟩ | ⟨L, hL, hnn, hsz, rfl⟩
            · subst h2
              obtain ⟨m', h0, h1, h2', h3, h4, h5, hrun⟩ := hb true hbd hc (Nat.le_refl 0) (Nat.le_refl 0)
              refine ⟨.slice a0 0 0, ?_, fun w => ?_⟩
              · cases mxT with
                | none => exact .inl ⟨by omega, by omega, a0, rfl⟩
                | some _ => exact .inl ⟨by omega, a0, rfl⟩
              · have e1 : m' = l.toNat := by omega
                simp [Instr.sliceAt, Instr.slice, run_underlying hu, hrun, run_size hwd, e1]
                omega
            · obtain ⟨m', h0, h1, h2', h3, h4, h5, hrun⟩ := hb true hbd hc (Nat.le_refl _) (Nat.le_refl _)
              by_cases e1 : m' = l.toNat
              · refine ⟨.slice (some ⟨L.b, L.base + r * wd, none⟩) 0 0, ?_, fun w => ?_⟩
                · cases mxT with
                  | none => exact .inl ⟨by omega, by have := h4 rfl; omega, _, rfl⟩
                  | some _ => exact .inl ⟨by omega, _, rfl⟩
                · simp [Instr.sliceAt, Instr.slice, run_underlying hu, hrun, run_size hwd, e1]
                  omega
              · have hle2 : (r + l.toNat + (m' - l.toNat)) * wd ≤ (r + len) * wd := Nat.mul_le_mul_right _ (by omega)
                refine ⟨.slice (some ⟨L.b, L.base + (r + l.toNat) * wd, none⟩) (hh.toNat - l.toNat) (m' - l.toNat), ?_, fun w => ?_⟩
                · cases mxT with
                  | none => exact .inr ⟨L, m' - l.toNat, hL, by omega, by have := h4 rfl; omega, by omega, by omega, rfl⟩
                  | some _ =>
                    have := h5 (by simp)
                    exact .inr ⟨L, hL, by omega, by rw [← this]; omega, by rw [this]⟩
                · simp [Instr.sliceAt, Instr.slice, run_underlying hu, hrun, run_size hwd, e1, add_zero_off, Nat.add_assoc, Nat.add_mul]
          · simp [Tr.val] at h
        · simp [Tr.val] at h
      · rename_i id wd' len cp
        split at h
        · rename_i l hh m hbd
          split at h
          · rename_i hw
            subst hw
            obtain ⟨hc, h⟩ := val_chk h
            obtain rfl := val_ok h
            simp only [Bool.and_eq_true, decide_eq_true_eq] at hc
            obtain ⟨hc, hlen⟩ := hc
            obtain ⟨L, hL, hLn, hncp, ha⟩ := ha
            rcases ha with ⟨h2, a0, rfl⟩ | ⟨cap, hle, hsz, rfl⟩
            · have hl0 : len = 0 := by omega
              subst hl0; subst h2
              obtain ⟨m', h0, h1, h2', h3, h4, h5, hrun⟩ := hb true hbd hc (Nat.le_refl 0) (Nat.le_refl 0)
              refine ⟨.slice a0 0 0, ⟨L, hL, .inl ⟨by omega, a0, rfl⟩⟩, fun w => ?_⟩
              have e1 : m' = l.toNat := by omega
              simp [Instr.sliceAt, Instr.slice, run_underlying hu, hrun, run_size hwd, e1]
              omega
            · obtain ⟨m', h0, h1, h2', h3, h4, h5, hrun⟩ := hb true hbd hc hncp hle
              by_cases e1 : m' = l.toNat
              · refine ⟨.slice (some ⟨L.b, L.base, none⟩) 0 0, ⟨L, hL, .inl ⟨by omega, _, rfl⟩⟩, fun w => ?_⟩
                simp [Instr.sliceAt, Instr.slice, run_underlying hu, hrun, run_size hwd, e1]
                omega
              · have hle2 : (l.toNat + (m' - l.toNat)) * wd ≤ cap * wd := Nat.mul_le_mul_right _ (by omega)
                refine ⟨.slice (some ⟨L.b, L.base + l.toNat * wd, none⟩) (hh.toNat - l.toNat) (m' - l.toNat), ⟨L, hL, .inr ⟨l.toNat, m' - l.toNat, by omega, by omega, by omega, rfl⟩⟩, fun w => ?_⟩
                simp [Instr.sliceAt, Instr.slice, run_underlying hu, hrun, run_size hwd, e1, add_zero_off]
          · simp [Tr.val] at h
        · simp [Tr.val] at h
      · rename_i id wd' r len
        split at h
        · rename_i l hh m hbd
          split at h
          · rename_i hw
            subst hw
            obtain ⟨hc, h⟩ := val_chk h
            obtain rfl := val_ok h
            rcases ha with ⟨h2, a0, rfl⟩ | ⟨L, cap, hL, hle, hnn, rfl⟩
            · subst h2
              obtain ⟨m', h0, h1, h2', h3, h4, h5, hrun⟩ := hb true hbd hc (Nat.le_refl 0) (Nat.le_refl 0)
              refine ⟨.slice a0 0 0, .inl ⟨by omega, a0, rfl⟩, fun w => ?_⟩
              have e1 : m' = l.toNat := by omega
              simp [Instr.sliceAt, Instr.slice, run_underlying hu, hrun, run_size hwd, e1]
              omega
            · obtain ⟨m', h0, h1, h2', h3, h4, h5, hrun⟩ := hb true hbd hc (Nat.le_refl _) hle
              by_cases e1 : m' = l.toNat
              · refine ⟨.slice (some ⟨L.b, L.base + r * wd, none⟩) 0 0, .inl ⟨by omega, _, rfl⟩, fun w => ?_⟩
                simp [Instr.sliceAt, Instr.slice, run_underlying hu, hrun, run_size hwd, e1]
                omega
              · refine ⟨.slice (some ⟨L.b, L.base + (r + l.toNat) * wd, none⟩) (hh.toNat - l.toNat) (m' - l.toNat), .inr ⟨L, m' - l.toNat, hL, by omega, by omega, rfl⟩, fun w => ?_⟩
                simp [Instr.sliceAt, Instr.slice, run_underlying hu, hrun, run_size hwd, e1, add_zero_off, Nat.add_assoc, Nat.add_mul]
          · simp [Tr.val] at h
        · simp [Tr.val] at h
      · simp [Tr.val] at h
    · simp [Tr.val] at h
  · simp [Tr.val] at h

/-! ### the rest -/

theorem run_arrPtrT {t : TypeId} {x tv : TV} {a : Value} (h : arrPtrT P t x = some tv) (ha : relT φ x a) : ∃ v, relT φ tv v ∧ ∀ w, (Instr.arrayAt t a).run P w = .ok v w := by
  unfold arrPtrT at h
  split at h
  · rename_i n e hu
    split at h
    · rename_i id wd o len
      split at h
      · rename_i m hle
        cases h
        have hle : m + 1 ≤ len := Nat.le_of_ble_eq_true hle
        rcases ha with ⟨h0, _⟩ | ⟨L, cap, hL, h1, rfl⟩
        · omega
        · refine ⟨_, ⟨L, hL, rfl⟩, fun w => ?_⟩
          have : ¬ len < m + 1 := by omega
          simp [Instr.arrayAt, run_underlying hu, this]
      · cases h
    · cases h
  · cases h

theorem run_extractT {x tv : TV} {i : Nat} {a : Value} (h : extractT x i = some tv) (ha : relT φ x a) : ∃ v, relT φ tv v ∧ ∀ w, (Instr.extract a i).run P w = .ok v w := by
  unfold extractT at h
  split at h
  · rename_i l
    obtain ⟨p, hp, rfl⟩ := Option.map_eq_some_iff.1 h
    obtain ⟨vs, rfl, hvs⟩ := ha
    obtain ⟨v, hv, hr⟩ := hvs.get hp
    have hv' : vs[i]? = some v := by simpa using hv
    exact ⟨v, hr, fun w => by simp [Instr.extract, hv']⟩
  · cases h

theorem run_convT {s d : TypeId} {x tv : TV} {a : Value} (h : convT P s d x = some tv) (ha : relT φ x a) : ∃ v, relT φ tv v ∧ ∀ w, (convert s d a).run P w = .ok v w := by
  unfold convT at h
  split at h
  · rename_i ds k k' n hs hd
    obtain rfl := Option.some.inj h
    simp only [relT, relA, relS] at ha
    subst ha
    exact ⟨_, rfl, fun w => by simp [convert, run_underlying hs, run_underlying hd, Conv.intToInt]⟩
  · rename_i ds l hs hd
    obtain rfl := Option.some.inj h
    obtain ⟨s, rfl, hs'⟩ := ha
    exact ⟨_, ⟨s, rfl, hs'⟩, fun w => by simp [convert, run_underlying hs, run_underlying hd]⟩
  · cases h

theorem run_lenT {t ty : TypeId} {x tv : TV} {a : Value} (h : lenT P t x = some tv) (ha : relT φ x a) : ∃ v, relT φ tv v ∧ ∀ w, (Builtin.len_ #[t] ty #[a]).run P w = .ok v w := by
  unfold lenT at h
  split at h
  · rename_i e hu
    split at h
    · obtain rfl := Option.some.inj h
      rcases ha with ⟨h2, a0, rfl⟩ | ⟨L, cap, hL, hle, rfl⟩
      · subst h2
        exact ⟨_, rfl, fun w => by simp [Builtin.len_, run_underlying hu, goInt]⟩
      · exact ⟨_, rfl, fun w => by simp [Builtin.len_, run_underlying hu, goInt]⟩
    · obtain rfl := Option.some.inj h
      rcases ha with ⟨h2, _, a0, rfl⟩ | ⟨L, cap, hL, hle, hcp, hnn, hsz, rfl⟩
      · subst h2
        exact ⟨_, rfl, fun w => by simp [Builtin.len_, run_underlying hu, goInt]⟩
      · exact ⟨_, rfl, fun w => by simp [Builtin.len_, run_underlying hu, goInt]⟩
    · obtain rfl := Option.some.inj h
      rcases ha with ⟨h2, a0, rfl⟩ | ⟨L, hL, hnn, hle, rfl⟩
      · subst h2
        exact ⟨_, rfl, fun w => by simp [Builtin.len_, run_underlying hu, goInt]⟩
      · exact ⟨_, rfl, fun w => by simp [Builtin.len_, run_underlying hu, goInt]⟩
    · obtain rfl := Option.some.inj h
      rcases ha with ⟨h2, a0, rfl⟩ | ⟨L, cap, hL, hle, hnn, rfl⟩
      · subst h2
        exact ⟨_, rfl, fun w => by simp [Builtin.len_, run_underlying hu, goInt]⟩
      · exact ⟨_, rfl, fun w => by simp [Builtin.len_, run_underlying hu, goInt]⟩
    · obtain rfl := Option.some.inj h
      obtain ⟨L, hL, hn', ha⟩ := ha
      rcases ha with ⟨h2, a0, rfl⟩ | ⟨cap, hle, hsz, rfl⟩
      · subst h2
        exact ⟨_, rfl, fun w => by simp [Builtin.len_, run_underlying hu, goInt]⟩
      · exact ⟨_, rfl, fun w => by simp [Builtin.len_, run_underlying hu, goInt]⟩
    · obtain rfl := Option.some.inj h
      obtain ⟨L, hL, hn', hcp, ha⟩ := ha
      rcases ha with ⟨h2, a0, rfl⟩ | ⟨cap, hle, hsz, rfl⟩
      · rename_i n _
        obtain rfl : n = 0 := by omega
        exact ⟨_, rfl, fun w => by simp [Builtin.len_, run_underlying hu, goInt]⟩
      · exact ⟨_, rfl, fun w => by simp [Builtin.len_, run_underlying hu, goInt]⟩
    · obtain rfl := Option.some.inj h
      simp only [relT, relA, relS] at ha
      subst ha
      exact ⟨_, rfl, fun w => by simp [Builtin.len_, run_underlying hu, goInt]⟩
    · cases h
  · rename_i n e hu
    obtain rfl := Option.some.inj h
    exact ⟨_, rfl, fun w => by simp [Builtin.len_, run_underlying hu, goInt]⟩
  · cases h

theorem run_minT : ∀ {xs : List TV} {vs : List Value} {x tv : TV} {a : Value}, minT false x xs = some tv → relT φ x a → All2 (relT φ) xs vs → ∃ v, relT φ tv v ∧ ∀ w, (vs.foldlM Builtin.min2 a).run P w = .ok v w
  | [], [], x, tv, a, h, ha, _ => by
    have : x = tv := by unfold minT at h; simpa using h
    subst this
    exact ⟨a, ha, fun w => by simp⟩
  | y :: xs, b :: vs, x, tv, a, h, ha, hb => by
    obtain ⟨hb, hr⟩ := hb
    unfold minT at h
    split at h
    · rename_i heq; cases heq
    · rename_i k m k' n rest heq
      cases heq
      simp only [relT, relA, relS] at ha hb
      subst ha; subst hb
      obtain ⟨v, hv, hrun⟩ := run_minT (a := .int k (if n < m then n else m)) h rfl hr
      exact ⟨v, hv, fun w => by simp only [List.foldlM_cons, Builtin.min2, Sem.run_bind, Sem.run_pure, Result.andThen_ok]; exact hrun w⟩
    · cases h
  | [], _ :: _, _, _, _, _, _, hb => hb.elim
  | _ :: _, [], _, _, _, _, _, hb => hb.elim

theorem run_maxT : ∀ {xs : List TV} {vs : List Value} {x tv : TV} {a : Value}, minT true x xs = some tv → relT φ x a → All2 (relT φ) xs vs → ∃ v, relT φ tv v ∧ ∀ w, (vs.foldlM Builtin.max2 a).run P w = .ok v w
  | [], [], x, tv, a, h, ha, _ => by
    have : x = tv := by unfold minT at h; simpa using h
    subst this
    exact ⟨a, ha, fun w => by simp⟩
  | y :: xs, b :: vs, x, tv, a, h, ha, hb => by
    obtain ⟨hb, hr⟩ := hb
    unfold minT at h
    split at h
    · rename_i heq; cases heq
    · rename_i k m k' n rest heq
      cases heq
      simp only [relT, relA, relS] at ha hb
      subst ha; subst hb
      obtain ⟨v, hv, hrun⟩ := run_maxT (a := .int k (if n > m then n else m)) h rfl hr
      exact ⟨v, hv, fun w => by simp only [List.foldlM_cons, Builtin.max2, Sem.run_bind, Sem.run_pure, Result.andThen_ok]; exact hrun w⟩
    · cases h
  | [], _ :: _, _, _, _, _, _, hb => hb.elim
  | _ :: _, [], _, _, _, _, _, hb => hb.elim

theorem capsT_rel {ρ : Operand → TV} {e : Operand → Value} (hρ : ∀ x, relT φ (ρ x) (e x)) : ∀ {xs : List Operand} {l : List (Nat × Nat)}, capsT ρ xs = some l →
    All2 (fun (c : Nat × Nat) u => ∃ L, φ[c.1]? = some L ∧ u = .pointer (some ⟨L.b, L.base + c.2, none⟩)) l (xs.map e)
  | [], l, h => by simp [capsT] at h; subst h; trivial
  | x :: xs, l, h => by
    simp only [capsT] at h
    have hx := hρ x
    split at h
    · rename_i id o heq
      rw [heq] at hx
      split at h
      · rename_i r hr
        obtain rfl := Option.some.inj h
        exact ⟨hx, capsT_rel hρ hr⟩
      · cases h
    · cases h

end
end Go.AM
