/-
  The abstract machine, part 7: operations that turn the memory; any operation.
-/
import Derived.Test.YtepdekambalmhaaAmO
namespace Go.AM

section
variable {P : Program} {Γ : Specs} {φ : Phi} {H : AH} {ρ : Operand → TV} {e : Operand → Value}

theorem run_alloc {t : TypeId} {l : List AS} (h : zeroT P t = some l) : ∃ cs : Array Value, All2 (relS φ) l cs.toList ∧ ∀ w, (Instr.alloc t true (.tuple #[])).run P w = .ok (.pointer (some ⟨w.heap.size, 0, none⟩)) { w with heap := w.heap.push (.cells cs t) } := by
  obtain ⟨i, z, hi, hz, hrel⟩ := zeroT_rel (φ := φ) h
  refine ⟨z.cells, hrel, fun w => ?_⟩
  simp [Instr.alloc, zeroValue, typeInfo, hi, hz, newVar, newRow]

theorem run_buildSliceT {t : TypeId} {len : Nat} {parts : List (Nat × AV)} {vals : Array (Nat × Value)} {tv : TV} {H' : AH} {w : World} (h : buildSliceT P H t len parts = some (tv, H')) (hrep : Rep φ H w.heap)
    (hp : All2 (fun (a : Nat × AV) (b : Nat × Value) => a.1 = b.1 ∧ relA φ a.2 b.2) parts vals.toList) :
    ∃ v w' φ', (Instr.buildSlice t len vals).run P w = .ok v w' ∧ relT φ' tv v ∧ Rep φ' H' w'.heap ∧ Ext φ H w φ' H' w' := by
  unfold buildSliceT at h
  split at h
  · rename_i el hu
    split at h
    · rename_i n hn
      split at h
      · cases h
      rename_i hbig
      split at h
      · cases h
      rename_i hn0
      split at h
      · rename_i hl0
        subst hl0
        split at h
        · rename_i ks hks
          split at h
          · rename_i hkl
            simp only [Option.some.injEq, Prod.mk.injEq] at h
            obtain ⟨rfl, rfl⟩ := h
            have hv0 : vals = #[] := by
              have := hp.length_eq
              apply Array.ext'
              simpa using this.symm
            subst hv0
            obtain ⟨r1, r2⟩ := rep_push (o := .cells #[] el) (L := ⟨w.heap.size, 0, 0, 0, .nil⟩) (B := .rows ks 0 (fun _ _ => 0) true) hrep (fun _ hf => by simp [Blk.foot] at hf) ⟨rfl, by simp, .inl rfl⟩
            refine ⟨.slice (some ⟨w.heap.size, 0, none⟩) 0 0, { w with heap := w.heap.push (.cells #[] el) }, _, ?_, ⟨⟨w.heap.size, 0, 0, 0, .nil⟩, by rw [← hrep.len]; simp, rfl, .inl ⟨rfl, _, rfl⟩⟩, r1, ⟨r2, rfl, rfl, rfl⟩⟩
            simp [Instr.buildSlice, run_underlying hu, run_size hn, Instr.fill, newRow, Array.range_zero']
          · cases h
        · cases h
      · rename_i hl0
        split at h
        · rename_i zero hz
          split at h
          · cases h
          rename_i hzl
          have hzl : zero.length = n := by simpa using hzl
          split at h
          · rename_i l hl
            simp only [Option.some.injEq, Prod.mk.injEq] at h
            obtain ⟨rfl, rfl⟩ := h
            obtain ⟨i, z, hi, hzz, hrel⟩ := zeroT_rel (φ := φ) hz
            have hzero : ∀ w, (zeroValue el).run P w = .ok z w := fun w => by simp [zeroValue, typeInfo, hi, hzz]
            have hln : len * n ≠ 0 := Nat.mul_ne_zero hl0 hn0
            have hzs : z.cells.size = zero.length := by have := hrel.length_eq; simp at this; omega
            have hrow : All2 (relS φ) ((List.range (len * n)).map fun i => zero.getD (i % zero.length) .pnil) ((Array.range (len * n)).map (z.cells[· % z.cells.size]!)).toList := by
              refine All2.of_get (by simp) fun j a b ha hb => ?_
              simp only [List.getElem?_map, Array.toList_map, Array.toList_range] at ha hb
              cases hj : (List.range (len * n))[j]? with
              | none => simp [hj] at ha
              | some k =>
                simp only [hj, Option.map_some, Option.some.injEq] at ha hb
                have hlt : k % zero.length < zero.length := Nat.mod_lt _ (by omega)
                obtain ⟨u, hu, hr⟩ := hrel.get (List.getElem?_eq_getElem hlt)
                rw [List.getD_eq_getElem?_getD, List.getElem?_eq_getElem hlt] at ha
                simp only [Option.getD_some] at ha
                subst ha
                rw [hzs] at hb
                have hu' : z.cells[k % zero.length]? = some u := by simpa using hu
                rw [getElem!_def, hu'] at hb
                simp only at hb
                subst hb
                exact hr
            obtain ⟨ds, hds, hr⟩ := fill_rel hrow hp hl
            have hdl := hr.length_eq
            have hlast : (φ ++ [⟨w.heap.size, 0, l.length, 0, .nil⟩])[H.length]? = some (⟨w.heap.size, 0, l.length, 0, .nil⟩ : Loc) := by rw [← hrep.len]; simp
            obtain ⟨r1, r2⟩ := rep_push (o := .cells ds el) (L := ⟨w.heap.size, 0, l.length, 0, .nil⟩) (B := .cells l) hrep (fun _ hf => hf.2.symm) ⟨rfl, rfl, .inr ⟨ds, el, by simp, hr.mono fun _ _ h => relS.mono _ h⟩⟩
            refine ⟨.slice (some ⟨w.heap.size, 0, none⟩) len len, { w with heap := w.heap.push (.cells ds el) }, _, ?_, .inr ⟨_, len, hlast, Nat.le_refl _, by simp⟩, r1, ⟨r2, rfl, rfl, rfl⟩⟩
            have hgt : ¬ (2 ^ 24 < len * n) := by omega
            simp only [Instr.buildSlice, Sem.run_bind, run_underlying hu, run_size hn, Result.andThen_ok]
            rw [if_neg (by omega)]
            rw [if_neg hln]
            simp only [Sem.run_bind, Sem.run_pure, Result.andThen_ok, hzero, hds, newRow, run_newObj]
          · cases h
        · cases h
    · cases h
  · cases h

theorem stepE_sound (hΓ : SpecOK P Γ) (hρ : ∀ x, relT φ (ρ x) (e x)) {o : Oper} {y : Option Nat} {tv : TV} {H' : AH} {w : World} (h : (stepE P Γ y ρ H o.op).val = some (tv, H')) (hrep : Rep φ H w.heap) :
    Does P φ H w ((execOp e o).run P w) tv H' := by
  unfold stepE at h
  split at h
  · rename_i t hop
    split at h
    · rename_i l hl
      obtain ⟨cs, hcs, hrun⟩ := run_alloc (φ := φ) hl
      have h' := val_ok h
      obtain ⟨φ', r1, r2, r3⟩ := rep_alloc t hrep hcs
      rw [h'] at r1 r2 r3
      exact .inl ⟨_, { w with heap := w.heap.push (.cells cs t) }, φ', .inl (by simp [execOp, hop, hrun]), r1, r2, ⟨r3, rfl, rfl, rfl⟩⟩
    · simp [Tr.val] at h
  · rename_i t x hop
    have hx := hρ x
    split at h
    · rename_i a ha
      rw [ha] at hx
      have h' := val_ok h
      obtain ⟨φ', r1, r2, r3⟩ := rep_alloc t hrep (relA.cells hx)
      rw [h'] at r1 r2 r3
      exact .inl ⟨_, { w with heap := w.heap.push (.cells (e x).cells t) }, φ', .inl (by simp [execOp, hop, Instr.box, newVar, newRow]), r1, r2, ⟨r3, rfl, rfl, rfl⟩⟩
    · simp [Tr.val] at h
  · rename_i t len parts hop
    split at h
    · rename_i ps hps
      rw [val_opt] at h
      have := partsT_rel hρ hps
      obtain ⟨v, w', φ', r0, r1, r2, r3⟩ := run_buildSliceT (vals := parts.map fun x => (x.1, e x.2)) h hrep (by simpa using this)
      exact .inl ⟨v, w', φ', .inl (by simp [execOp, hop, r0]), r1, r2, r3⟩
    · simp [Tr.val] at h
  · rename_i t a x hop
    rw [Tr.val_bind] at h
    cases hs : (storeS P H t (ρ a) (ρ x)).val with
    | none => simp [hs] at h
    | some H1 =>
      simp only [hs, Option.bind_some] at h
      have h' := val_ok h
      simp only [Prod.mk.injEq] at h'
      obtain ⟨rfl, rfl⟩ := h'
      obtain ⟨w', r0, r1, r2⟩ := run_storeS hs hrep (hρ a) (hρ x)
      exact .inl ⟨undef, w', φ, .inr ⟨by simp [execOp, hop, r0], rfl⟩, ⟨#[], rfl, trivial⟩, r1, r2⟩
  · rename_i s d x hop
    rw [val_opt] at h
    obtain ⟨v, w', φ', r0, r1, r2, r3⟩ := run_convE h hrep (hρ x)
    exact .inl ⟨v, w', φ', .inl (by simp [execOp, hop, r0]), r1, r2, r3⟩
  · rename_i c hop
    split at h
    · rename_i hc
      split at h
      · rename_i sT xT a b h1 h2
        have e1 : c.argTypes = #[sT, xT] := by apply Array.ext'; simpa using h1
        have e2 : c.args = #[a, b] := by apply Array.ext'; simpa using h2
        obtain ⟨v, w', φ', r0, r1, r2, r3⟩ := run_appendS (ty := o.type) h hrep (hρ a) (hρ b)
        exact .inl ⟨v, w', φ', .inl (by simp [execOp, hop, resolve, hc, invoke, builtin, e1, e2, r0]), r1, r2, r3⟩
      · simp [Tr.val] at h
    · rename_i hc
      split at h
      · rename_i sT xT a b h1 h2
        rw [val_opt] at h
        have e1 : c.argTypes = #[sT, xT] := by apply Array.ext'; simpa using h1
        have e2 : c.args = #[a, b] := by apply Array.ext'; simpa using h2
        obtain ⟨v, w', φ', r0, r1, r2, r3⟩ := run_copyT (sT := xT) (ty := o.type) h hrep (hρ a) (hρ b)
        exact .inl ⟨v, w', φ', .inl (by simp [execOp, hop, resolve, hc, invoke, builtin, e1, e2, r0]), r1, r2, r3⟩
      · simp [Tr.val] at h
    · rename_i hc
      split at h
      · rename_i t a h1 h2
        have e1 : c.argTypes = #[t] := by apply Array.ext'; simpa using h1
        have e2 : c.args = #[a] := by apply Array.ext'; simpa using h2
        rw [val_opt] at h
        obtain ⟨v, w', φ', r0, r1, r2, r3⟩ := run_clearT (ty := o.type) h hrep (hρ a)
        exact .inl ⟨v, w', φ', .inl (by simp [execOp, hop, resolve, hc, invoke, builtin, e1, e2, r0]), r1, r2, r3⟩
      · simp [Tr.val] at h
    · rename_i x hc
      have hx := hρ x
      split at h
      · rename_i f caps hfx
        rw [hfx] at hx
        obtain ⟨cs, hv, hcs⟩ := hx
        have hargs : All2 (relT φ) (c.args.toList.map ρ ++ caps.map fun c => TV.v (AV.s (AS.p c.1 c.2))) (c.args.toList.map e ++ cs) := by
          refine (map_rel hρ _).append ?_
          exact All2.map_l (f := fun (c : Nat × Nat) => TV.v (AV.s (AS.p c.1 c.2))) (fun c u h => h) hcs
        have := does_call hΓ (f := f) (w := w) h hrep hargs
        have e1 : (execOp e o).run P w = (callFunc f (c.args.toList.map e ++ cs).toArray).run P w := by
          have e2 : (c.args.toList.map e ++ cs).toArray = c.args.map e ++ cs.toArray := by apply Array.ext'; simp
          simp [execOp, hop, resolve, hc, hv, Deferred.ofValue, invoke, e2]
        rw [e1]
        exact this
      · simp [Tr.val] at h
    · simp [Tr.val] at h
  · simp [Tr.val] at h

theorem step_sound (hΓ : SpecOK P Γ) (hρ : ∀ x, relT φ (ρ x) (e x)) (hf : ∀ f, e (.func f) = .func (.func f) #[] #[]) {o : Oper} {y : Option Nat} {tv : TV} {H' : AH} {w : World}
    (h : (step P Γ y ρ H o.op).val = some (tv, H')) (hrep : Rep φ H w.heap) : Does P φ H w ((execOp e o).run P w) tv H' := by
  unfold step at h
  split at h
  · rw [Tr.val_bind] at h
    cases hs : (stepN P Γ y ρ o.op).val with
    | none => simp [hs] at h
    | some v =>
      simp only [hs, Option.bind_some] at h
      have h' := val_ok h
      simp only [Prod.mk.injEq] at h'
      obtain ⟨rfl, rfl⟩ := h'
      exact stepN_sound hΓ hρ hf hs hrep
  · rw [Tr.val_bind] at h
    cases hs : (stepR P Γ y ρ H o.op).val with
    | none => simp [hs] at h
    | some v =>
      simp only [hs, Option.bind_some] at h
      have h' := val_ok h
      simp only [Prod.mk.injEq] at h'
      obtain ⟨rfl, rfl⟩ := h'
      exact stepR_sound hΓ hρ hf hs hrep
  · exact stepE_sound hΓ hρ h hrep
end
end Go.AM
