/-
  The abstract machine, part 6: each operation is sound.
-/
import Derived.Test.YtepdekambalmhaaAm5
namespace Go.AM

section
variable {P : Program} {Γ : Specs} {φ : Phi} {H : AH} {ρ : Operand → TV} {e : Operand → Value}

theorem map_rel (hρ : ∀ x, relT φ (ρ x) (e x)) : ∀ (xs : List Operand), All2 (relT φ) (xs.map ρ) (xs.map e)
  | [] => trivial
  | x :: xs => ⟨hρ x, map_rel hρ xs⟩

/-- A call of a function that has a specification. -/
theorem does_call (hΓ : SpecOK P Γ) {f : FuncId} {targs : List TV} {args : List Value} {tv : TV} {H' : AH} {w : World} (h : ((Γ f).app targs H).val = some (tv, H')) (hrep : Rep φ H w.heap)
    (hargs : All2 (relT φ) targs args) : Does P φ H w ((callFunc f args.toArray).run P w) tv H' := by
  rcases hΓ f with h0 | ⟨⟨fn, h1, h2, h3⟩, hall, _⟩
  · rw [h0] at h; cases h
  · refine .inr ⟨f, args.toArray, ?_, hall φ H w targs args tv H' h hrep hargs⟩
    simp only [callFunc, Sem.run_bind, run_program, Result.andThen_ok, h1, h2, h3]
    rfl

theorem execOp_call_func {o : Oper} {c : Call} {f : FuncId} (ho : o.op = .call c) (hc : c.callee = .value (.func f)) (he : e (.func f) = .func (.func f) #[] #[]) (w : World) :
    (execOp e o).run P w = (callFunc f (c.args.map e)).run P w := by
  simp [execOp, ho, resolve, hc, he, Deferred.ofValue, invoke]

theorem stepN_sound (hΓ : SpecOK P Γ) (hρ : ∀ x, relT φ (ρ x) (e x)) (hf : ∀ f, e (.func f) = .func (.func f) #[] #[]) {o : Oper} {y : Option Nat} {tv : TV} {w : World} (h : (stepN P Γ y ρ o.op).val = some tv) (hrep : Rep φ H w.heap) :
    Does P φ H w ((execOp e o).run P w) tv H := by
  have fin : ∀ {s : Sem Value}, execOp e o = (do pure (.value (← s))) → (∃ v, relT φ tv v ∧ ∀ w, s.run P w = .ok v w) → Does P φ H w ((execOp e o).run P w) tv H := by
    intro s hs ⟨v, hv, hrun⟩
    exact Does.value (by rw [hs]; simp [hrun]) hv hrep
  unfold stepN at h
  split at h
  · rename_i x hop
    obtain rfl := val_ok h
    exact Does.value (by simp [execOp, hop]) (hρ x) hrep
  · rename_i x hop
    obtain rfl := val_ok h
    exact Does.value (by simp [execOp, hop]) (hρ x) hrep
  · rename_i c a b hop
    split at h
    · rename_i x hc
      have hcv := hρ c
      rw [hc] at hcv
      simp only [relT, relA, relS] at hcv
      have := run_pickT h (hρ a) (hρ b)
      refine Does.value ?_ this hrep
      simp [execOp, hop, hcv, asBool]
    · simp [Tr.val] at h
  · rename_i t parts hop
    split at h
    · rename_i ps hps
      rw [val_opt] at h
      refine fin (s := Instr.build t (parts.map fun x => (x.1, e x.2))) (by simp [execOp, hop]) (run_buildT h ?_)
      have := partsT_rel hρ hps
      simpa using this
    · simp [Tr.val] at h
  · rename_i x hop
    have hx := hρ x
    split at h
    · rename_i id o' hx'
      obtain rfl := val_ok h
      rw [hx'] at hx
      refine Does.value ?_ hx hrep
      obtain ⟨L, hL, hv⟩ := hx
      simp [execOp, hop, hv]
    · rename_i id wd i c hx'
      obtain rfl := val_ok h
      rw [hx'] at hx
      refine Does.value ?_ hx hrep
      obtain ⟨L, hL, hn, hv⟩ := hx
      simp [execOp, hop, hv]
    · rename_i id wd i o n len j c hx'
      obtain rfl := val_ok h
      rw [hx'] at hx
      refine Does.value ?_ hx hrep
      obtain ⟨L, hL, hj, hn, hv⟩ := hx
      simp [execOp, hop, hv]
    · simp [Tr.val] at h
  · rename_i op t a b yt hop
    exact fin (s := do eqGuard op t a b (e a) (e b); binOp op t (e a) (e b)) (by simp [execOp, hop]) (run_binT a b h (hρ a) (hρ b))
  · rename_i op t a hop
    exact fin (s := Op.unary op (e a)) (by simp [execOp, hop]) (run_unT h (hρ a))
  · rename_i s d x hop
    rw [val_opt] at h
    exact fin (s := convert s d (e x)) (by simp [execOp, hop]) (run_convT h (hρ x))
  · rename_i f first captured hop
    split at h
    · rename_i l h1 h2
      obtain rfl := val_ok h
      have hcap := capsT_rel hρ h2
      have h1' : first = #[] := by apply Array.ext'; simpa using h1
      refine Does.value (v := .func (.func f) #[] (captured.map e)) (by simp [execOp, hop, Instr.makeFunc, h1']) ?_ hrep
      exact ⟨captured.toList.map e, by congr 1; apply Array.ext'; simp, hcap⟩
    · simp [Tr.val] at h
  · rename_i t x lo hi mx hop
    exact fin (s := Instr.sliceAt t (e x) (lo.map e) (hi.map e) (mx.map e)) (by simp [execOp, hop]) (run_sliceT hρ h (hρ x))
  · rename_i arr x hop
    rw [val_opt] at h
    exact fin (s := Instr.arrayAt arr (e x)) (by simp [execOp, hop]) (run_arrPtrT h (hρ x))
  · rename_i s x f hop
    rw [val_opt] at h
    exact fin (s := Instr.fieldAt s (e x) f) (by simp [execOp, hop]) (run_fieldAddrT h (hρ x))
  · rename_i s x f hop
    rw [val_opt] at h
    exact fin (s := Instr.field s (e x) f) (by simp [execOp, hop]) (run_fieldT h (hρ x))
  · rename_i t x ix hop
    exact fin (s := Instr.indexAt t (e x) (e ix)) (by simp [execOp, hop]) (run_indexAddrS h (hρ x) (hρ ix))
  · rename_i t x ix hop
    exact fin (s := Instr.index t (e x) (e ix)) (by simp [execOp, hop]) (run_indexS h (hρ x) (hρ ix))
  · rename_i x i hop
    rw [val_opt] at h
    exact fin (s := Instr.extract (e x) i) (by simp [execOp, hop]) (run_extractT h (hρ x))
  · rename_i c hop
    split at h
    · rename_i f hc
      split at h
      · rename_i F hF
        have := does_call (H' := H) hΓ (f := f) (targs := c.args.toList.map ρ) (args := c.args.toList.map e) (tv := tv) (w := w) (by rw [hF]; simp [Spec.app, Tr.val_bind, h, Tr.val]) hrep (map_rel hρ _)
        rw [execOp_call_func hop hc (hf f)]
        have e1 : (List.map e c.args.toList).toArray = c.args.map e := by apply Array.ext'; simp
        rw [e1] at this
        exact this
      · simp [Tr.val] at h
    · rename_i hc
      split at h
      · rename_i t x h1 h2
        rw [val_opt] at h
        have e1 : c.argTypes = #[t] := by apply Array.ext'; simpa using h1
        have e2 : c.args = #[x] := by apply Array.ext'; simpa using h2
        refine fin (s := Builtin.len_ #[t] o.type #[e x]) ?_ (run_lenT h (hρ x))
        simp [execOp, hop, resolve, hc, invoke, builtin, e1, e2]
      · simp [Tr.val] at h
    · rename_i hc
      split at h
      · rename_i x rest h2
        rw [Tr.val_bind, val_opt] at h
        obtain ⟨tv0, h, h'⟩ := Option.bind_eq_some_iff.1 h
        obtain rfl := splitTV_val h'
        refine fin (s := (rest.map e).foldlM Builtin.min2 (e x)) ?_ (run_minT h (hρ x) (map_rel hρ rest))
        have e2 : (c.args.map e).toList = e x :: rest.map e := by simp [h2]
        simp [execOp, hop, resolve, hc, invoke, builtin, Builtin.min_, h2]
      · simp [Tr.val] at h
    · rename_i hc
      split at h
      · rename_i x rest h2
        rw [val_opt] at h
        refine fin (s := (rest.map e).foldlM Builtin.max2 (e x)) ?_ (run_maxT h (hρ x) (map_rel hρ rest))
        simp [execOp, hop, resolve, hc, invoke, builtin, Builtin.max_, h2]
      · simp [Tr.val] at h
    · simp [Tr.val] at h
  · simp [Tr.val] at h

theorem viewT_rel {x : TV} {v : Value} {id wd i len : Nat} (h : viewT x = some (id, wd, i, len)) (hx : relT φ x v) :
    (len = 0 ∧ ∃ a, v = .slice a 0 0) ∨ ∃ L cap, φ[id]? = some L ∧ len ≤ cap ∧ i + len ≤ L.n ∧ v = .slice (some ⟨L.b, L.base + i * wd, none⟩) len cap := by
  unfold viewT at h
  split at h
  · cases h
    rcases hx with ⟨h2, _, a0, rfl⟩ | ⟨L, cap, hL, hle, hcp, hnn, hsz, rfl⟩
    · exact .inl ⟨h2, a0, rfl⟩
    · exact .inr ⟨L, cap, hL, by omega, by omega, rfl⟩
  · cases h
    rcases hx with ⟨h2, a0, rfl⟩ | ⟨L, hL, hnn, hsz, rfl⟩
    · exact .inl ⟨h2, a0, rfl⟩
    · exact .inr ⟨L, len, hL, Nat.le_refl _, hnn, rfl⟩
  · cases h
    exact hx
  · cases h
    rcases slr_of_slw hx with ⟨h2, _, a0, rfl⟩ | ⟨L, cap, hL, hle, hcp, hnn, hsz, rfl⟩
    · exact .inl ⟨h2, a0, rfl⟩
    · exact .inr ⟨L, cap, hL, by omega, by omega, rfl⟩
  · cases h

/-- The rows that a view looks at. -/
theorem view_cells {heap : Array Obj} {id i len : Nat} {ks : List SK} {n : Nat} {g : Nat → Nat → Int} {own : Bool} {L : Loc} (hrep : Rep φ H heap) (hb : blk H id = some (.rows ks n g own)) (hL : φ[id]? = some L) (hin : i + len ≤ L.n)
    (hpos : 0 < len * ks.length) : ∃ cs ty fr, heap[L.b]? = some (.cells cs ty fr) ∧ L.base + (i * ks.length + len * ks.length) ≤ cs.size ∧
      ∀ (j c : Nat) (sk : SK), j < len → ks[c]? = some sk → ∃ v, cs[L.base + ((i + j) * ks.length + c)]? = some v ∧ relS φ (mkS sk (g (i + j) c)) v := by
  obtain ⟨L', hL', hLn, hn, hreal⟩ := hrep.blk _ _ (blk_some hb)
  rw [hL] at hL'; cases hL'
  have h1 : (i + len) * ks.length ≤ n * ks.length := Nat.mul_le_mul_right _ (by omega)
  rw [Nat.add_mul] at h1
  rcases hreal with hz | ⟨cs, ty, fr, h2, h3, _, h4⟩
  · omega
  · exact ⟨cs, ty, fr, h2, by omega, fun j c sk hj hc => h4 (i + j) c sk (by omega) hc⟩

theorem bytes_run {f : Value → ByteArray → Sem (ForInStep ByteArray)} (hf : ∀ n s w, (f (.int .u8 n) s).run P w = .ok (.yield (s.push (UInt8.ofNat n.toNat))) w) : ∀ (cs : List Value) (l : List UInt8) (s : ByteArray) (w : World), All2 (fun (b : UInt8) v => ∃ x : Int, v = .int .u8 x ∧ b = UInt8.ofNat x.toNat) l cs →
    (forIn cs s f).run P w = .ok ⟨(s.data.toList ++ l).toArray⟩ w
  | [], [], s, w, _ => by simp
  | c :: cs, b :: l, s, w, h => by
    obtain ⟨⟨x, rfl, rfl⟩, h2⟩ := h
    simp only [List.forIn_cons, Sem.run_bind, hf, Result.andThen_ok]
    rw [bytes_run hf cs l _ w h2]
    simp [ByteArray.push]
  | [], _ :: _, _, _, h => h.elim
  | _ :: _, [], _, _, h => h.elim

/-- What a view reads, cell by cell. -/
theorem view_load {x : TV} {v : Value} {id wd i len : Nat} {ks : List SK} {n : Nat} {g : Nat → Nat → Int} {own : Bool} {w : World} (hv : viewT x = some (id, wd, i, len)) (hx : relT φ x v) (hrep : Rep φ H w.heap) (hb : blk H id = some (.rows ks n g own)) (hwd : wd = ks.length) :
    ∃ cells : List Value, cells.length = len * wd ∧ (∀ (j c : Nat) (sk : SK), j < len → ks[c]? = some sk → ∃ u, cells[j * wd + c]? = some u ∧ relS φ (mkS sk (g (i + j) c)) u) ∧
      ((len = 0 ∧ ∃ a, v = .slice a 0 0) ∨ ∃ L cap, φ[id]? = some L ∧ len ≤ cap ∧ v = .slice (some ⟨L.b, L.base + i * wd, none⟩) len cap ∧ ∀ j u, cells[j]? = some u → w.cell? ((⟨L.b, L.base + i * wd, none⟩ : Addr).add j) = some u) := by
  subst hwd
  rcases viewT_rel hv hx with ⟨h0, a, rfl⟩ | ⟨L, cap, hL, hle, hin, rfl⟩
  · subst h0
    exact ⟨[], by simp, fun j c sk hj => by omega, .inl ⟨rfl, a, rfl⟩⟩
  · rcases Nat.eq_zero_or_pos (len * ks.length) with hz | hpos
    · refine ⟨[], by simp [hz], fun j c sk hj hc => ?_, .inr ⟨L, cap, hL, hle, rfl, fun j u h => by simp at h⟩⟩
      have hc' : c < ks.length := (List.getElem?_eq_some_iff.1 hc).1
      rcases Nat.mul_eq_zero.1 hz with h | h <;> omega
    · obtain ⟨cs, ty, fr, h1, h2, h3⟩ := view_cells hrep hb hL hin hpos
      refine ⟨(cs.toList.drop (L.base + i * ks.length)).take (len * ks.length), ?_, fun j c sk hj hc => ?_, .inr ⟨L, cap, hL, hle, rfl, fun j u h => ?_⟩⟩
      · simp; omega
      · obtain ⟨u, h4, h5⟩ := h3 j c sk hj hc
        have hc' : c < ks.length := (List.getElem?_eq_some_iff.1 hc).1
        have hlt : j * ks.length + c < len * ks.length := by
          have : (j + 1) * ks.length ≤ len * ks.length := Nat.mul_le_mul_right _ hj
          rw [Nat.add_mul] at this
          omega
        refine ⟨u, ?_, h5⟩
        rw [List.getElem?_take, if_pos hlt, List.getElem?_drop, ← h4, Array.getElem?_toList]
        congr 1
        rw [Nat.add_mul]
        omega
      · rw [List.getElem?_take] at h
        split at h
        · rw [List.getElem?_drop, Array.getElem?_toList] at h
          simp only [add_zero_off, World.cell?, h1]
          simpa using h
        · cases h

theorem run_bytesStrT {s d : TypeId} {x tv : TV} {v : Value} {w : World} (h : bytesStrT P H s d x = some tv) (hrep : Rep φ H w.heap) (ha : relT φ x v) :
    ∃ u, relT φ tv u ∧ (convert s d v).run P w = .ok u w := by
  unfold bytesStrT at h
  split at h
  · rename_i e hs hd
    split at h
    · rename_i he
      split at h
      · rename_i id wd i len hv
        split at h
        · rename_i ks n g own hb
          split at h
          · rename_i hk
            obtain ⟨rfl, rfl⟩ := hk
            obtain rfl := Option.some.inj h
            obtain ⟨cells, hlen, hrel, hval⟩ := view_load hv ha hrep hb rfl
            have hall : All2 (fun (b : UInt8) v => ∃ x : Int, v = .int .u8 x ∧ b = UInt8.ofNat x.toNat) ((List.range len).map fun j => UInt8.ofNat (g (i + j) 0).toNat) cells := by
              refine All2.of_get (by simp [hlen]) fun j a b h1 h2 => ?_
              have hj : j < len := by
                have := (List.getElem?_eq_some_iff.1 h2).1
                omega
              obtain ⟨u, h3, h4⟩ := hrel j 0 (.n .u8) hj rfl
              simp only [Nat.mul_one, Nat.add_zero] at h3
              rw [h3] at h2
              cases h2
              simp only [List.getElem?_map, List.getElem?_range hj, Option.map_some, Option.some.injEq] at h1
              exact ⟨g (i + j) 0, h4, h1.symm⟩
            rcases hval with ⟨h0, a, rfl⟩ | ⟨L, cap, hL, hle, rfl, hcell⟩
            · subst h0
              refine ⟨.string .empty, ⟨.empty, rfl, rfl⟩, ?_⟩
              cases a with
              | none => simp [convert, run_underlying hs, run_underlying hd, run_underlying he, Conv.bytesToString]
              | some a => simp [convert, run_underlying hs, run_underlying hd, run_underlying he, Conv.bytesToString, loadCells, loadCellsFrom]
            · have hl := run_loadCells_list (P := P) w ⟨L.b, L.base + i * 1, none⟩ cells hcell
              rw [hlen] at hl
              refine ⟨.string ⟨(ByteArray.empty.data.toList ++ ((List.range len).map fun j => UInt8.ofNat (g (i + j) 0).toNat)).toArray⟩, ⟨_, rfl, by simp⟩, ?_⟩
              simp only [convert, Sem.run_bind, run_underlying hs, run_underlying hd, run_underlying he, Result.andThen_ok, Conv.bytesToString]
              have hl' : (loadCells ⟨L.b, L.base + i * 1, none⟩ len).run P w = .ok cells.toArray w := by simpa using hl
              rw [hl']
              simp only [Result.andThen_ok]
              rw [← Array.forIn_toList, bytes_run (P := P) (fun n s w => rfl) cells _ .empty w hall]
              simp
          · cases h
        · cases h
      · cases h
    · cases h
  · cases h

theorem stepR_sound (hΓ : SpecOK P Γ) (hρ : ∀ x, relT φ (ρ x) (e x)) (hf : ∀ f, e (.func f) = .func (.func f) #[] #[]) {o : Oper} {y : Option Nat} {tv : TV} {w : World} (h : (stepR P Γ y ρ H o.op).val = some tv) (hrep : Rep φ H w.heap) :
    Does P φ H w ((execOp e o).run P w) tv H := by
  unfold stepR at h
  split at h
  · rename_i t a hop
    obtain ⟨u, hu, hrun⟩ := run_loadS h hrep (hρ a)
    exact Does.value (by simp [execOp, hop, hrun]) hu hrep
  · rename_i s d x hop
    rw [val_opt] at h
    obtain ⟨u, hu, hrun⟩ := run_bytesStrT h hrep (hρ x)
    exact Does.value (by simp [execOp, hop, hrun]) hu hrep
  · rename_i c hop
    split at h
    · rename_i f hc
      split at h
      · rename_i F hF
        have := does_call (H' := H) hΓ (f := f) (targs := c.args.toList.map ρ) (args := c.args.toList.map e) (tv := tv) (w := w) (by rw [hF]; simp [Spec.app, Tr.val_bind, h, Tr.val]) hrep (map_rel hρ _)
        rw [execOp_call_func hop hc (hf f)]
        have e1 : (List.map e c.args.toList).toArray = c.args.map e := by apply Array.ext'; simp
        rw [e1] at this
        exact this
      · simp [Tr.val] at h
    · rename_i t hc
      have hx := hρ (.tmp t)
      unfold dynR at h
      split at h
      · rename_i f caps hfx
        rw [hfx] at hx
        obtain ⟨cs, hv, hcs⟩ := hx
        have hargs : All2 (relT φ) (c.args.toList.map ρ ++ caps.map fun c => TV.v (AV.s (AS.p c.1 c.2))) (c.args.toList.map e ++ cs) := by
          refine (map_rel hρ _).append ?_
          exact All2.map_l (f := fun (c : Nat × Nat) => TV.v (AV.s (AS.p c.1 c.2))) (fun c u h => h) hcs
        have happ : ((Γ f).app (c.args.toList.map ρ ++ caps.map fun c => TV.v (AV.s (AS.p c.1 c.2))) H).val = some (tv, H) := by
          split at h
          · rename_i F hF
            rw [hF]; simp [Spec.app, Tr.val_bind, h, Tr.val]
          · rename_i F hF
            rw [hF]; simp [Spec.app, Tr.val_bind, h, Tr.val]
          · simp [Tr.val] at h
        have := does_call hΓ (f := f) (w := w) happ hrep hargs
        have e1 : (execOp e o).run P w = (callFunc f (c.args.toList.map e ++ cs).toArray).run P w := by
          have e2 : (c.args.toList.map e ++ cs).toArray = c.args.map e ++ cs.toArray := by apply Array.ext'; simp
          simp [execOp, hop, resolve, hc, hv, Deferred.ofValue, invoke, e2]
        rw [e1]
        exact this
      · simp [Tr.val] at h
    · simp [Tr.val] at h
  · simp [Tr.val] at h

/-! ### operations that turn the memory -/

theorem updRow_spec {ks : List SK} {i : Nat} : ∀ {as : List AS} {g g' : Nat → Nat → Int} {c : Nat}, updRow ks g i c as = some g' →
    (∀ (j : Nat) (a : AS), as[j]? = some a → ∃ sk, ks[c + j]? = some sk ∧ mkS sk (g' i (c + j)) = a) ∧ (∀ i' c', ¬ (i' = i ∧ c ≤ c' ∧ c' < c + as.length) → g' i' c' = g i' c') ∧ (as = [] ∨ c + as.length ≤ ks.length)
  | [], g, g', c, h => by
    simp [updRow] at h
    subst h
    exact ⟨fun j a hj => by simp at hj, fun _ _ _ => rfl, .inl rfl⟩
  | a :: as, g, g', c, h => by
    simp only [updRow] at h
    split at h
    · rename_i sk hsk
      split at h
      · rename_i x hx
        obtain ⟨h1, h2, h3⟩ := updRow_spec h
        refine ⟨?_, ?_, .inr ?_⟩
        · intro j b hj
          cases j with
          | zero =>
            simp at hj
            subst hj
            refine ⟨sk, hsk, ?_⟩
            rw [Nat.add_zero, h2 i c (by omega)]
            simp only [updG, if_true]
            exact asInt_mk hx
          | succ j =>
            simp at hj
            obtain ⟨sk', e1, e2⟩ := h1 j b hj
            rw [show c + (j + 1) = c + 1 + j by omega]
            exact ⟨sk', e1, e2⟩
        · intro i' c' hn
          simp only [List.length_cons] at hn
          rw [h2 i' c' (by omega)]
          unfold updG
          by_cases e1 : c' = c
          · by_cases e2 : i' = i
            · exact (hn ⟨e2, by omega, by omega⟩).elim
            · simp [e1, e2]
          · simp [e1]
        · have hlt : c < ks.length := by
            rcases Nat.lt_or_ge c ks.length with h' | h'
            · exact h'
            · simp [List.getElem?_eq_none h'] at hsk
          simp only [List.length_cons]
          rcases h3 with rfl | h3
          · simp; omega
          · omega
      · cases h
    · cases h

theorem storeVar_run {w : World} {t : TypeId} {n b o : Nat} {v : Value} {cs : Array Value} {ty : TypeId} (hn : sizeT P t = some n) (hv : v.cells.size = n) (hc : ∀ x ∈ v.cells.toList, x.oneCell' = true)
    (hg : w.heap[b]? = some (.cells cs ty (0, 0))) (ho : o + n ≤ cs.size) :
    (storeVar t ⟨b, o, none⟩ v).run P w = .ok () (w.setRow b (cs.toList.take o ++ v.cells.toList ++ cs.toList.drop (o + n)).toArray) := by
  have := run_storeCells_at (P := P) b o ty v.cells.toList 0 cs w hg (by simp [hv]; omega) hc
  simp only [storeVar, Sem.run_bind, run_size hn, Result.andThen_ok, hv]
  simp only [ne_eq, not_true_eq_false, if_false, this]
  simp [hv]

theorem all_oneCell {φ : Phi} : ∀ {l : List AS} {vs : List Value}, All2 (relS φ) l vs → ∀ x ∈ vs, x.oneCell' = true
  | [], [], _, x, hx => by simp at hx
  | _ :: _, _ :: _, h, x, hx => by
    rcases List.mem_cons.1 hx with rfl | hx
    · exact relS.oneCell h.1
    · exact all_oneCell h.2 x hx
  | [], _ :: _, h, _, _ => h.elim
  | _ :: _, [], h, _, _ => h.elim

theorem rep_setW {w w' : World} {id : Nat} {B B' : Blk} {L : Loc} (o1 : w'.os = w.os) (o2 : w'.output = w.output) (o3 : w'.tape = w.tape) (h : Rep φ H w.heap) (hid : H[id]? = some (some B)) (hL : φ[id]? = some L) (hm : B.mut = true) (hf : ∀ b, B'.foot L b → B.foot L b)
    (hsz : w.heap.size ≤ w'.heap.size) (ho : ∀ b, ¬ B.foot L b → b < w.heap.size → w'.heap[b]? = w.heap[b]?) (hB : RepB φ L w'.heap B') :
    Rep φ (H.set id (some B')) w'.heap ∧ Ext φ H w φ (H.set id (some B')) w' :=
  let ⟨a, b⟩ := rep_set h hid hL hm hf hsz ho hB
  ⟨a, b, o1, o2, o3⟩

theorem run_storeT {t : TypeId} {a x : TV} {H' : AH} {va vx : Value} {w : World} (h : (storeT P H t a x).val = some H') (hrep : Rep φ H w.heap) (ha : relT φ a va) (hx : relT φ x vx) :
    ∃ w', (Instr.storeAt t va vx).run P w = .ok () w' ∧ Rep φ H' w'.heap ∧ Ext φ H w φ H' w' := by
  unfold storeT at h
  split at h
  · rename_i v
    split at h
    · rename_i n hn
      split at h
      · rename_i hlen
        have hcells := relA.cells hx
        have hvlen : vx.cells.size = n := by have := hcells.length_eq; simp at this; omega
        split at h
        · rename_i id o
          split at h
          · rename_i l hb
            split at h
            · rename_i hle
              obtain ⟨hle, hn0⟩ := hle
              rw [forceL_eq] at h
              obtain rfl := val_ok h
              obtain ⟨L, hL, h0, hsz, hreal⟩ := hrep.blk _ _ (blk_some hb)
              obtain ⟨L', hL', rfl⟩ := ha
              rw [hL] at hL'; cases hL'
              rcases hreal with hz | ⟨cs, ty, hcs, hrel⟩
              · omega
              have hl2 := hrel.length_eq
              simp at hl2
              have hrun := storeVar_run (P := P) (w := w) hn hvlen (all_oneCell hcells) hcs (show o + n ≤ cs.size by omega)
              refine ⟨_, by simp only [Instr.storeAt, Instr.sureAddr, Sem.run_bind, Sem.run_pure, Result.andThen_ok, h0, Nat.zero_add]; exact hrun, ?_⟩
              refine rep_setW (by simp) (by simp) (by simp) hrep (blk_some hb) hL rfl (fun _ h => h) (by simp) (fun b hne _ => setRow_other w L.b b _ (fun e => hne ⟨by omega, e.symm⟩)) ⟨h0, ?_, .inr ⟨_, ty, setRow_heap w L.b cs _ ty (0, 0) hcs, ?_⟩⟩
              · have : v.cells.length = n := hlen
                simp [setAll]; omega
              · have := setAll_rel hrel hcells o
                simp only [Array.length_toList, hvlen] at this
                exact this
            · simp [Tr.val] at h
          · simp [Tr.val] at h
        · rename_i id wd i c
          split at h
          · rename_i ks m g hb
            split at h
            · rename_i hwd
              obtain ⟨hwd, hn0⟩ := hwd
              subst hwd
              split at h
              · rename_i g' hg'
                obtain rfl := val_ok h
                obtain ⟨L, hL, hLn, hmn, hreal⟩ := hrep.blk _ _ (blk_some hb)
                obtain ⟨L', hL', hin', rfl⟩ := ha
                rw [hL] at hL'; cases hL'
                have hi : i < m := by omega
                obtain ⟨u1, u2, u3⟩ := updRow_spec hg'
                have hlen' : v.cells.length = n := hlen
                have hbound : i * ks.length + ks.length ≤ m * ks.length := by
                  have : (i + 1) * ks.length ≤ m * ks.length := Nat.mul_le_mul_right _ hi
                  rw [Nat.add_mul] at this; omega
                have u3 : c + v.cells.length ≤ ks.length := by
                  rcases u3 with u3 | u3
                  · rw [u3] at hlen'; simp at hlen'; omega
                  · exact u3
                rcases hreal with hz | ⟨cs, ty, fr, hcs, hsz, hown, hrows⟩
                · omega
                obtain ⟨h0, rfl⟩ := hown rfl
                have hin : L.base + (i * ks.length + c) + n ≤ cs.size := by omega
                have hrun := storeVar_run (P := P) (w := w) hn hvlen (all_oneCell hcells) hcs hin
                refine ⟨_, by simp only [Instr.storeAt, Instr.sureAddr, Sem.run_bind, Sem.run_pure, Result.andThen_ok]; exact hrun, ?_⟩
                have hnew := setRow_heap w L.b cs (cs.toList.take (L.base + (i * ks.length + c)) ++ vx.cells.toList ++ cs.toList.drop (L.base + (i * ks.length + c) + n)).toArray ty (0, 0) hcs
                refine rep_setW (by simp) (by simp) (by simp) hrep (blk_some hb) hL rfl (fun _ h => h) (by simp) (fun b hne _ => setRow_other w L.b b _ (fun e => hne ⟨by omega, e.symm⟩)) ⟨hLn, hmn, .inr ⟨_, ty, (0, 0), hnew, ?_, fun _ => ⟨h0, rfl⟩, ?_⟩⟩
                · simp [hvlen]; omega
                · intro i' c' sk hi' hsk
                  have hc'lt : c' < ks.length := by
                    rcases Nat.lt_or_ge c' ks.length with h' | h'
                    · exact h'
                    · simp [List.getElem?_eq_none h'] at hsk
                  have hget : ∀ (k : Nat), (cs.toList.take (L.base + (i * ks.length + c)) ++ vx.cells.toList ++ cs.toList.drop (L.base + (i * ks.length + c) + n)).toArray[k]? =
                      if L.base + (i * ks.length + c) ≤ k ∧ k < L.base + (i * ks.length + c) + n then vx.cells.toList[k - (L.base + (i * ks.length + c))]? else cs[k]? := by
                    intro k
                    simp only [List.getElem?_toArray, List.getElem?_append, List.length_append, List.length_take, Array.length_toList, hvlen, List.getElem?_take, List.getElem?_drop]
                    have em : min (L.base + (i * ks.length + c)) cs.size = L.base + (i * ks.length + c) := by omega
                    rw [em]
                    by_cases k1 : k < L.base + (i * ks.length + c)
                    · simp [k1, show k < L.base + (i * ks.length + c) + n by omega, show ¬ (L.base + (i * ks.length + c) ≤ k) by omega]
                    · by_cases k2 : k < L.base + (i * ks.length + c) + n
                      · simp [k1, k2, show L.base + (i * ks.length + c) ≤ k by omega]
                      · simp only [k2, if_false, and_false]
                        rw [show L.base + (i * ks.length + c) + n + (k - (L.base + (i * ks.length + c) + n)) = k by omega]
                        simp
                  rw [hget]
                  by_cases hcase : i' = i ∧ c ≤ c' ∧ c' < c + v.cells.length
                  · obtain ⟨rfl, hc1, hc2⟩ := hcase
                    have hj : c' - c < v.cells.length := by omega
                    obtain ⟨sk', e1, e2⟩ := u1 (c' - c) _ (List.getElem?_eq_getElem hj)
                    rw [show c + (c' - c) = c' by omega] at e1 e2
                    rw [hsk] at e1; cases e1
                    obtain ⟨u, hu, hr⟩ := hcells.get (List.getElem?_eq_getElem hj)
                    rw [if_pos (by omega), show L.base + (i' * ks.length + c') - (L.base + (i' * ks.length + c)) = c' - c by omega]
                    exact ⟨u, hu, by rw [e2]; exact hr⟩
                  · rw [if_neg, u2 i' c' hcase]
                    · exact hrows i' c' sk hi' hsk
                    · rintro ⟨k1, k2⟩
                      apply hcase
                      have e1 : i' = i := by
                        rcases Nat.lt_trichotomy i' i with hh | hh | hh
                        · have : (i' + 1) * ks.length ≤ i * ks.length := Nat.mul_le_mul_right _ hh
                          rw [Nat.add_mul] at this; omega
                        · exact hh
                        · have : (i + 1) * ks.length ≤ i' * ks.length := Nat.mul_le_mul_right _ hh
                          rw [Nat.add_mul] at this; omega
                      subst e1
                      exact ⟨rfl, by omega, by omega⟩
              · simp [Tr.val] at h
            · simp [Tr.val] at h
          · simp [Tr.val] at h
        · simp [Tr.val] at h
      · simp [Tr.val] at h
    · simp [Tr.val] at h
  · simp [Tr.val] at h

theorem updRowX_eq {ks : List SK} {i n len j : Nat} (hj : j < len) : ∀ {as : List AS} {g g' : Nat → Nat → Int} {o : Nat}, updRowX ks g i n len j o as = some g' → updRow ks g i (o + j * n) as = some g'
  | [], _, _, _, h => h
  | a :: as, g, g', o, h => by
    simp only [updRowX] at h
    split at h
    · rename_i sk hsk
      split at h
      · rename_i x hx
        have e := updRowX_eq hj h
        rw [show o + 1 + j * n = o + j * n + 1 by omega] at e
        simp only [updRow, kindX_get hsk hj, hx, e]
      · cases h
    · cases h

theorem run_storeS {t : TypeId} {a x : TV} {H' : AH} {va vx : Value} {w : World} (h : (storeS P H t a x).val = some H') (hrep : Rep φ H w.heap) (ha : relT φ a va) (hx : relT φ x vx) :
    ∃ w', (Instr.storeAt t va vx).run P w = .ok () w' ∧ Rep φ H' w'.heap ∧ Ext φ H w φ H' w' := by
  unfold storeS at h
  split at h
  · rename_i id wd i o n len j c
    unfold storeX at h
    split at h
    · rename_i v
      split at h
      · rename_i m hm
        split at h
        · rename_i hlen
          obtain ⟨hlen, hm0⟩ := hlen
          split at h
          · rename_i l hb
            split at h
            · rename_i hw
              obtain ⟨rfl, rfl, hn⟩ := hw
              split at h
              · rename_i l' hl'
                rw [forceL_eq] at h
                obtain rfl := val_ok h
                obtain ⟨hj, ha'⟩ := px_p ha
                refine run_storeT (a := .v (.s (.p id (o + j * n + c)))) (x := .v v) ?_ hrep ha' hx
                have hne : v.cells ≠ [] := by intro e; rw [e] at hlen; simp at hlen; omega
                obtain ⟨rfl, e2⟩ := setXs_eq hn hj hl' hne
                simp only [storeT, hm, hlen, hb, if_true]
                rw [if_pos ⟨by omega, hm0⟩, forceL_eq, show o + c + j * n = o + j * n + c by omega]
                rfl
              · simp [Tr.val] at h
            · simp [Tr.val] at h
          · rename_i ks r g hb
            split at h
            · rename_i hw
              obtain ⟨rfl, hw0⟩ := hw
              split at h
              · rename_i g' hg'
                obtain rfl := val_ok h
                obtain ⟨hj, ha'⟩ := px_pr hw0 ha
                refine run_storeT (a := .v (.s (.pr id ks.length i (o + j * n + c)))) (x := .v v) ?_ hrep ha' hx
                have e := updRowX_eq hj hg'
                rw [show o + c + j * n = o + j * n + c by omega] at e
                simp only [storeT, hm, hlen, hb, if_true, e]
                rw [if_pos ⟨trivial, hm0⟩]
                rfl
              · simp [Tr.val] at h
            · simp [Tr.val] at h
          · simp [Tr.val] at h
        · simp [Tr.val] at h
      · simp [Tr.val] at h
    · simp [Tr.val] at h
  · exact run_storeT h hrep ha hx
end
end Go.AM
