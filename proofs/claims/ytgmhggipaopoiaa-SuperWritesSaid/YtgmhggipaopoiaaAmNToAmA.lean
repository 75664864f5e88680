/-
  The abstract machine, part 6c: members that are appended to, rows with members that are made and copied.
-/
import Derived.Test.YtgmhggipaopoiaaAmO
import Derived.Laws.MakeOwn
section
namespace Go.AM

section
variable {P : Program} {φ : Phi} {H : AH}

theorem rep_takeout {heap : Array Obj} {id F i len : Nat} {ks : List SK} {c0 : Nat} {ms : List SK} {n : Nat} {g h : Nat → Nat → Int} {ow : Ow} {v : Value} (hrep : Rep φ H heap) (hb : blk H id = some (.nrows ks c0 ms n g h F ow true)) (hw : ms.length ≠ 0) (ho : isAll ow = true)
    (hv : relS φ (.mem id F ms.length i len) v) :
    ∃ φ', Rep φ' (H.set id (some (.nrows ks c0 ms n g h F (.but i) true)) ++ [some (.rows ms len (fun j c => h i (j * ms.length + c)) true)]) heap ∧
      ExtH φ H heap φ' (H.set id (some (.nrows ks c0 ms n g h F (.but i) true)) ++ [some (.rows ms len (fun j c => h i (j * ms.length + c)) true)]) heap ∧ relS φ' (.slw H.length ms.length len) v := by
  obtain ⟨L, LF, hL, hF, hin, rfl, hv⟩ := hv
  obtain ⟨L', hL', hLn, hmn, hc0, LF', hF', hreal, hmem, hap⟩ := hrep.blk _ _ (blk_some hb)
  rw [hL] at hL'; cases hL'
  rw [hF] at hF'; cases hF'
  have hi : i < n := by omega
  have hM := hmem i hi (isAll_has ho i)
  have hidlt : id < H.length := get_lt (blk_some hb)
  -- where it lies
  have place : ∃ LN : Loc, LN.n = len ∧ (∀ ψ : Phi, RepB (φ ++ ψ) LN heap (.rows ms len (fun j c => h i (j * ms.length + c)) true)) ∧ (∀ b, 0 < LN.sz ∧ LN.b = b → footV (LF.x.mem i) b) ∧
      ((len = 0 ∧ ∃ a, LF.x.mem i = .slice a 0 0) ∨ ∃ cap, len ≤ cap ∧ cap * ms.length ≤ LN.sz ∧ LF.x.mem i = .slice (some ⟨LN.b, LN.base, none⟩) len cap) := by
    rcases hv with ⟨h0, a, ha⟩ | ⟨b, o, cap, ha, hcap, hle⟩
    · exact ⟨⟨0, 0, 0, 0, .nil⟩, h0.symm, fun ψ => ⟨h0.symm, by rw [h0]; simp, .inl rfl⟩, fun b hh => by have := hh.1; simp at this, .inl ⟨h0, a, ha⟩⟩
    · obtain ⟨_, hM⟩ := hM
      rw [ha] at hM
      rcases hM with ⟨_, a, e⟩ | ⟨b', o', cap', cs, t, fr, e, k1, k2, k3, k4, k5, k6⟩
      · cases e; omega
      · simp only [Value.slice.injEq, Option.some.injEq, Addr.mk.injEq] at e
        obtain ⟨⟨rfl, rfl, _⟩, e1, rfl⟩ := e
        rw [← e1] at k6
        refine ⟨⟨b, o, cap * ms.length, len, .nil⟩, rfl, fun ψ => ⟨rfl, Nat.mul_le_mul_right _ hle, .inr ⟨cs, t, fr, k3, k4, k5, fun j c sk hj hc => ?_⟩⟩, fun b' hh => ⟨_, _, _, ha, hcap, hh.2⟩, .inr ⟨cap, hle, Nat.le_refl _, ha⟩⟩
        obtain ⟨u, q1, q2⟩ := k6 j c sk hj hc
        exact ⟨u, q1, relS.mono _ q2⟩
  obtain ⟨LN, hLNn, hRN, hfN, hvN⟩ := place
  have hlast : (φ ++ [LN])[H.length]? = some LN := by rw [← hrep.len]; simp
  have hmemi : footV (LF.x.mem i) = fun b => footV (LF.x.mem i) b := rfl
  have old : ∀ {j : Nat} {C : Blk}, (H.set id (some (.nrows ks c0 ms n g h F (.but i) true)) ++ [some (.rows ms len (fun j c => h i (j * ms.length + c)) true)])[j]? = some (some C) →
      (j = id ∧ C = .nrows ks c0 ms n g h F (.but i) true) ∨ (j ≠ id ∧ j < H.length ∧ H[j]? = some (some C)) ∨ (j = H.length ∧ C = .rows ms len (fun j c => h i (j * ms.length + c)) true) := by
    intro j C hj
    rcases get_push hj with ⟨hlt, hj'⟩ | ⟨rfl, rfl⟩
    · rcases get_set hj' with ⟨rfl, e⟩ | ⟨hne, hj''⟩
      · cases e; exact .inl ⟨rfl, rfl⟩
      · exact .inr (.inl ⟨hne, by simpa using hlt, hj''⟩)
    · exact .inr (.inr ⟨by simp, rfl⟩)
  have fid : ∀ {b}, Blk.foot (φ ++ [LN]) (.nrows ks c0 ms n g h F (.but i) true) L b → (0 < L.sz ∧ L.b = b) ∨ ∃ j, j < n ∧ j ≠ i ∧ footV (LF.x.mem j) b := by
    rintro b (hh | ⟨LF', j, q1, q2, q3, q4⟩)
    · exact .inl hh
    · rw [get_prefix hF] at q1; cases q1
      exact .inr ⟨j, q2, q3, q4⟩
  have crossed : ∀ {b}, footV (LF.x.mem i) b → Blk.foot (φ ++ [LN]) (.nrows ks c0 ms n g h F (.but i) true) L b → False := by
    intro b q1 q2
    rcases fid q2 with ⟨q3, rfl⟩ | ⟨j, q3, q4, q5⟩
    · exact (hap rfl i hi (isAll_has ho i)).1 q3 q1
    · exact (hap rfl i hi (isAll_has ho i)).2 j q3 (isAll_has ho j) (Ne.symm q4) b q1 q5
  have step := rep_step (ψ := [LN]) (H' := H.set id (some (.nrows ks c0 ms n g h F (.but i) true)) ++ [some (.rows ms len (fun j c => h i (j * ms.length + c)) true)]) (heap' := heap)
    (fun b => Blk.foot φ (.nrows ks c0 ms n g h F ow true) L b) (fun j => j = id ∨ j = H.length) hrep (by simp [hrep.len]) (Nat.le_refl _) (fun _ _ _ => rfl)
    (fun b _ hw => ⟨id, _, L, blk_some hb, rfl, hL, hw⟩)
    (fun j C hj hne => by
      rcases old hj with ⟨e, _⟩ | ⟨e1, _, e3⟩ | ⟨e, _⟩
      · exact (hne (.inl e)).elim
      · exact ⟨e3, fun L2 b hL2 z hw => hrep.apart id j _ C L L2 b (blk_some hb) e3 hL hL2 (Ne.symm e1) rfl hw z⟩
      · exact (hne (.inr e)).elim)
    (fun j C hj hN => by
      rcases old hj with ⟨rfl, rfl⟩ | ⟨e1, e2, _⟩ | ⟨rfl, rfl⟩
      · refine ⟨L, get_prefix hL, ⟨hLn, hmn, hc0, LF, get_prefix hF, hreal.imp id ?_, fun j hj _ => ?_, fun _ j hj _ => ?_⟩, fun b hf => .inl ?_⟩
        · rintro ⟨cs, t, fr, k1, k2, k3, k4⟩
          refine ⟨cs, t, fr, k1, k2, k3, fun i' c' sk hi' hsk => ?_⟩
          obtain ⟨u, q1, q2, q3⟩ := k4 i' c' sk hi' hsk
          exact ⟨u, q1, fun hne => relS.mono _ (q2 hne), fun e _ => q3 e (isAll_has ho _)⟩
        · exact ⟨(hmem j hj (isAll_has ho j)).1, (hmem j hj (isAll_has ho j)).2.mono _⟩
        · exact ⟨(hap rfl j hj (isAll_has ho j)).1, fun j' hj' _ => (hap rfl j hj (isAll_has ho j)).2 j' hj' (isAll_has ho j')⟩
        · rcases fid hf with hh | ⟨j, q1, _, q3⟩
          · exact .inl hh
          · exact .inr ⟨LF, j, hF, q1, isAll_has ho j, q3⟩
      · rcases hN with hN | hN
        · exact (e1 hN).elim
        · omega
      · exact ⟨LN, hlast, hRN _, fun b hf => .inl (.inr ⟨LF, i, hF, hi, isAll_has ho i, hfN b hf⟩)⟩)
    (fun j j' C C' L1 L2 b h1 h2 hj hj' hL1 hL2 hne z z' => by
      rcases old hj with ⟨rfl, rfl⟩ | ⟨e1, e2, _⟩ | ⟨rfl, rfl⟩
      · rw [get_prefix hL] at hL1; cases hL1
        rcases old hj' with ⟨rfl, rfl⟩ | ⟨e1, e2, _⟩ | ⟨rfl, rfl⟩
        · exact hne rfl
        · rcases h2 with h2 | h2
          · exact e1 h2
          · omega
        · rw [hlast] at hL2; cases hL2
          exact crossed (hfN b z') z
      · rcases h1 with h1 | h1
        · exact e1 h1
        · omega
      · rw [hlast] at hL1; cases hL1
        rcases old hj' with ⟨rfl, rfl⟩ | ⟨e1, e2, _⟩ | ⟨rfl, rfl⟩
        · rw [get_prefix hL] at hL2; cases hL2
          exact crossed (hfN b z) z'
        · rcases h2 with h2 | h2
          · exact e1 h2
          · omega
        · exact hne rfl)
  exact ⟨φ ++ [LN], step.1, step.2, LN, hlast, hLNn, hvN⟩

theorem run_appendM {y : Option Nat} {sT xT ty : TypeId} {id F wd i len : Nat} {b tv : TV} {H' : AH} {va vb : Value} {w : World} (h : (appendM P y H sT xT id F wd i len b).val = some (tv, H')) (hrep : Rep φ H w.heap) (ha : relS φ (.mem id F wd i len) va) (hb : relT φ b vb) :
    ∃ u w' φ', (Builtin.append_ #[sT, xT] ty #[va, vb]).run P w = .ok u w' ∧ relT φ' tv u ∧ Rep φ' H' w'.heap ∧ Ext φ H w φ' H' w' := by
  unfold appendM at h
  split at h
  · rename_i ks c0 ms n g hh F' ow hblk
    split at h
    · rename_i hc
      obtain ⟨rfl, hw0, rfl, ho⟩ := hc
      obtain ⟨φ1, r1, r2, r3⟩ := rep_takeout hrep hblk hw0 ho ha
      have hb' : relT φ1 b vb := by
        obtain ⟨ψ, rfl⟩ := r2.pre
        exact relT.mono ψ hb
      obtain ⟨u, w', φ', g1, g2, g3, g4⟩ := run_appendS (ty := ty) h r1 (va := va) r3 hb'
      exact ⟨u, w', φ', g1, g2, g3, (⟨r2, rfl, rfl, rfl⟩ : Ext φ H w _ _ w).trans g4⟩
    · simp [Tr.val] at h
  · simp [Tr.val] at h

/-! ### rows with members, made -/

theorem nKinds_spec {c0 : Nat} : ∀ {l : List AS} {i : Nat} {ks : List SK}, nKinds c0 l i = some ks → ks.length = l.length ∧ ∀ (c : Nat) (sk : SK), ks[c]? = some sk → (i + c = c0 → l[c]? = some .slnil) ∧ (i + c ≠ c0 → l[c]? = some (mkS sk 0))
  | [], i, ks, h => by simp [nKinds] at h; subst h; exact ⟨rfl, fun c sk hc => by simp at hc⟩
  | a :: as, i, ks, h => by
    simp only [nKinds] at h
    split at h
    · rename_i hb
      have hb := Nat.eq_of_beq_eq_true hb
      subst hb
      split at h
      · split at h
        · rename_i r hr
          cases h
          obtain ⟨e1, e2⟩ := nKinds_spec hr
          refine ⟨by simp [e1], fun c sk hc => ?_⟩
          cases c with
          | zero => exact ⟨fun _ => rfl, fun hne => (hne rfl).elim⟩
          | succ c =>
            obtain ⟨q1, q2⟩ := e2 c sk (by simpa using hc)
            exact ⟨fun e => by omega, fun _ => by simpa using q2 (by omega)⟩
        · cases h
      · cases h
    · rename_i hb
      split at h
      · rename_i k hk
        split at h
        · rename_i r hr
          cases h
          obtain ⟨e1, e2⟩ := nKinds_spec hr
          refine ⟨by simp [e1], fun c sk hc => ?_⟩
          cases c with
          | zero =>
            simp only [List.getElem?_cons_zero, Option.some.injEq] at hc
            subst hc
            refine ⟨fun e => by subst e; simp at hb, fun _ => ?_⟩
            unfold kindOf at hk
            split at hk
            · cases hk; rfl
            · split at hk
              · rename_i hx; subst hx; cases hk; rfl
              · cases hk
            · cases hk
          | succ c =>
            obtain ⟨q1, q2⟩ := e2 c sk (by simpa using hc)
            exact ⟨fun e => by simpa using q1 (by omega), fun hne => by simpa using q2 (by omega)⟩
        · cases h
      · cases h

theorem nKindsT_zero {e : TypeId} {ks ms : List SK} {c0 : Nat} (h : nKindsT P e = some (ks, c0, ms)) : ∃ i z, P.info? e = some i ∧ i.zero = some z ∧ z.cells.size = ks.length ∧ c0 < ks.length ∧
    ∀ (c : Nat) (sk : SK), ks[c]? = some sk → ∃ u, z.cells[c]? = some u ∧ (c ≠ c0 → relS φ (mkS sk 0) u) ∧ (c = c0 → u = .slice none 0 0) := by
  unfold nKindsT at h
  cases hz : zeroT P e with
  | none => simp [hz] at h
  | some l =>
    simp only [hz] at h
    split at h
    · split at h
      · rename_i ks' ms' hk hm
        split at h
        · rename_i hlt
          cases h
          obtain ⟨i, z, h1, h2, h3⟩ := zeroT_rel (φ := φ) hz
          obtain ⟨e1, e2⟩ := nKinds_spec hk
          refine ⟨i, z, h1, h2, ?_, by simpa using hlt, fun c sk hc => ?_⟩
          · have := h3.length_eq
            rw [e1, this]
            simp
          · obtain ⟨q1, q2⟩ := e2 c sk hc
            by_cases hcc : c = c0
            · obtain ⟨u, g1, g2⟩ := h3.get (q1 (by omega))
              exact ⟨u, by simpa using g1, fun hne => (hne hcc).elim, fun _ => g2⟩
            · obtain ⟨u, g1, g2⟩ := h3.get (q2 (by omega))
              exact ⟨u, by simpa using g1, fun _ => g2, fun e => (hcc e).elim⟩
        · cases h
      · cases h
    · cases h

theorem zeroCells_get {z : Array Value} {k : Nat} (hz : z.size = k) {m j c : Nat} {u : Value} (hj : j < m) (hc : z[c]? = some u) : (Builtin.zeroCells z m)[j * k + c]? = some u := by
  have hcl : c < k := by rw [← hz]; exact (Array.getElem?_eq_some_iff.1 hc).1
  have hlt : j * k + c < m * z.size := by rw [hz]; exact idx_lt hj hcl
  have hmod : (j * k + c) % z.size = c := by
    rw [hz, Nat.add_comm, Nat.add_mul_mod_self_right, Nat.mod_eq_of_lt hcl]
  simp only [Builtin.zeroCells, Array.getElem?_map, Array.getElem?_range]
  rw [if_pos hlt]
  simp only [Option.map_some, hmod]
  rw [getElem!_def, hc]

theorem nofootV (b : Nat) : ¬ footV (.slice none 0 0) b := by rintro ⟨a, l, c, e, h1, _⟩; cases e

theorem repB_made {heap : Array Obj} {ks ms : List SK} {c0 n : Nat} {L LF : Loc} {z cs : Array Value} {t : TypeId} {F : Nat} (hF : φ[F]? = some LF) (hmem : ∀ i, LF.x.mem i = .slice none 0 0) (hn : L.n = n) (hb : L.base = 0) (hsz : L.sz = n * ks.length) (hcs : heap[L.b]? = some (.cells cs t (0, 0))) (hsize : n * ks.length ≤ cs.size)
    (hz : z.size = ks.length) (hc0 : c0 < ks.length) (hzz : ∀ (c : Nat) (sk : SK), ks[c]? = some sk → ∃ u, z[c]? = some u ∧ (c ≠ c0 → relS φ (mkS sk 0) u) ∧ (c = c0 → u = .slice none 0 0))
    (hcells : ∀ j c u, j < n → z[c]? = some u → cs[j * ks.length + c]? = some u) :
    RepB φ L heap (.nrows ks c0 ms n (fun _ _ => 0) (fun _ _ => 0) F .all true) := by
  refine ⟨hn, by omega, hc0, LF, hF, .inr ⟨cs, t, (0, 0), hcs, by omega, fun _ => ⟨hb, rfl⟩, fun i c sk hi hc => ?_⟩, fun i hi _ => ⟨Int.le_refl _, ?_⟩, fun _ i _ _ => ⟨fun _ hf => ?_, fun j _ _ _ b hf => ?_⟩⟩
  · obtain ⟨u, q1, q2, q3⟩ := hzz c sk hc
    exact ⟨u, by rw [hb, Nat.zero_add]; exact hcells i c u hi q1, q2, fun e _ => by rw [hmem]; exact q3 e⟩
  · rw [hmem]; exact .inl ⟨rfl, none, rfl⟩
  · rw [hmem] at hf; exact nofootV _ hf
  · rw [hmem] at hf; exact (nofootV _ hf).elim

theorem run_makeT {y : Option Nat} {t : TypeId} {l c tv : TV} {H' : AH} {vl vc : Value} {w : World} (h : (makeT P y H t l c).val = some (tv, H')) (hrep : Rep φ H w.heap) (hl : relT φ l vl) (hc : relT φ c vc) :
    ∃ u w' φ', (Instr.makeSlice t vl vc).run P w = .ok u w' ∧ relT φ' tv u ∧ Rep φ' H' w'.heap ∧ Ext φ H w φ' H' w' := by
  unfold makeT at h
  split at h
  · rename_i k x k' x'
    simp only [relT, relA, relS] at hl hc
    subst hl; subst hc
    split at h
    · rename_i e hu
      split at h
      · rename_i wd hwd
        split at h
        · rename_i hcond
          obtain ⟨hw0, hby⟩ := hcond
          obtain ⟨i0, hi0, hs0, _⟩ := sizeT_some hwd
          have run : ∀ {z : Value}, i0.zero = some z → z.cells.size = wd → (decide (0 ≤ x) && (x == x') && decide (x ≤ 1073741824)) = true →
              (Instr.makeSlice t (.int k x) (.int k' x')).run P w = .ok (.slice (some ⟨w.heap.size, 0, none⟩) x.toNat x.toNat) (w.alloc (.cells (Builtin.zeroCells z.cells x.toNat) e)) := by
            intro z hz hzs hcc
            simp only [Bool.and_eq_true, decide_eq_true_eq, beq_iff_eq] at hcc
            obtain ⟨⟨c1, rfl⟩, c3⟩ := hcc
            have hb : i0.bytes ≤ 1024 := by simpa [Program.bytesOf, hi0] using hby
            have hbb : (i0.bytes : Int) * x ≤ 281474976710656 := by
              have h1 : (i0.bytes : Int) * x ≤ 1024 * x := Int.mul_le_mul_of_nonneg_right (by omega) c1
              omega
            have := run_make (P := P) w t e i0 z hu hi0 hz k k' x x c1 (Int.le_refl _) hbb (by omega)
            rw [this, hs0, ← hzs]
            rfl
          split at h
          · rename_i ks hks
            split at h
            · rename_i hkl
              subst hkl
              obtain ⟨hcc, h⟩ := val_chk h
              have h := val_ok h
              simp only [Prod.mk.injEq] at h
              obtain ⟨rfl, rfl⟩ := h
              obtain ⟨i, z, hi, hz, hzs, hzr⟩ := kindsT_zero (φ := φ) hks
              rw [hi0] at hi; cases hi
              have hrun := run hz hzs hcc
              generalize x.toNat = n at hrun
              have hin := rowsIn_zero hzs hzr n
              have hcsz : (Builtin.zeroCells z.cells n).size = n * ks.length := by simp [Builtin.zeroCells, hzs]
              have hlast : (φ ++ [⟨w.heap.size, 0, n * ks.length, n, .nil⟩])[H.length]? = some (⟨w.heap.size, 0, n * ks.length, n, .nil⟩ : Loc) := by rw [← hrep.len]; simp
              obtain ⟨r1, r2⟩ := rep_push (o := .cells (Builtin.zeroCells z.cells n) e) (L := ⟨w.heap.size, 0, n * ks.length, n, .nil⟩) (B := .rows ks n (fun _ _ => 0) true) hrep (by intro _ hf; exact hf.2.symm)
                (repB_rows (xs := (Builtin.zeroCells z.cells n).toList) (cs := Builtin.zeroCells z.cells n) (t := e) ⟨hin.1, fun j c sk hj hc => by obtain ⟨u, q1, q2⟩ := hin.2 j c sk hj hc; exact ⟨u, q1, relS.mono _ q2⟩⟩ rfl rfl (Nat.le_refl _) (by simp) (by rw [hcsz]; exact Nat.le_refl _) fun k u hk => by simpa using hk)
              exact ⟨_, _, _, hrun, ⟨_, hlast, rfl, .inr ⟨n, Nat.le_refl _, Nat.le_refl _, rfl⟩⟩, r1, ⟨r2, rfl, rfl, rfl⟩⟩
            · simp [Tr.val] at h
          · split at h
            · rename_i ks c0 ms hks
              split at h
              · rename_i hkl
                subst hkl
                obtain ⟨hcc, h⟩ := val_chk h
                have h := val_ok h
                simp only [Prod.mk.injEq] at h
                obtain ⟨rfl, rfl⟩ := h
                obtain ⟨i, z, hi, hz, hzs, hc0, _⟩ := nKindsT_zero (φ := φ) hks
                rw [hi0] at hi; cases hi
                have hrun := run hz hzs hcc
                generalize x.toNat = n at hrun
                have hcsz : (Builtin.zeroCells z.cells n).size = n * ks.length := by simp [Builtin.zeroCells, hzs]
                let L : Loc := ⟨w.heap.size, 0, n * ks.length, n, .nil⟩
                let LF : Loc := ⟨0, 0, 0, 0, ⟨.tuple #[], fun _ => .slice none 0 0⟩⟩
                have hlast : (φ ++ [L, LF])[H.length]? = some L := by rw [← hrep.len]; simp
                have hlastF : (φ ++ [L, LF])[H.length + 1]? = some LF := by rw [← hrep.len]; simp
                obtain ⟨_, z', hi', hz', _, _, hzr⟩ := nKindsT_zero (φ := φ ++ [L, LF]) hks
                rw [hi0] at hi'; cases hi'
                rw [hz] at hz'; cases hz'
                obtain ⟨r1, r2⟩ := rep_more2 (heap' := w.heap.push (.cells (Builtin.zeroCells z.cells n) e)) (L := L) (LF := LF) (B := .nrows ks c0 ms n (fun _ _ => 0) (fun _ _ => 0) (H.length + 1) .all true) hrep (by simp)
                  (fun b hlt => by rw [Array.getElem?_push, if_neg (Nat.ne_of_lt hlt)])
                  (by
                    rintro b (hf | ⟨LF', j, q1, _, _, q4⟩)
                    · exact Nat.le_of_eq hf.2
                    · rw [hlastF] at q1; cases q1
                      exact (nofootV _ q4).elim)
                  (repB_made (z := z.cells) (cs := Builtin.zeroCells z.cells n) (t := e) hlastF (fun _ => rfl) rfl rfl rfl (by simp [L]) (by rw [hcsz]; exact Nat.le_refl _) hzs hc0 hzr (fun j c u hj hc => zeroCells_get hzs hj hc))
                exact ⟨_, _, _, hrun, ⟨L, hlast, rfl, .inr ⟨n, Nat.le_refl _, Nat.le_refl _, rfl⟩⟩, r1, ⟨r2, rfl, rfl, rfl⟩⟩
              · simp [Tr.val] at h
            · simp [Tr.val] at h
        · simp [Tr.val] at h
      · simp [Tr.val] at h
    · simp [Tr.val] at h
  · simp [Tr.val] at h

/-! ### .. and copied -/

theorem nview_load {x : TV} {v : Value} {id wd i len : Nat} {ks : List SK} {c0 : Nat} {ms : List SK} {n : Nat} {g h : Nat → Nat → Int} {F : Nat} {ow : Ow} {own : Bool} {w : World} (hv : viewT x = some (id, wd, i, len)) (hx : relT φ x v) (hrep : Rep φ H w.heap) (hb : blk H id = some (.nrows ks c0 ms n g h F ow own)) (hwd : wd = ks.length) :
    ∃ cells : List Value, cells.length = len * wd ∧ (∀ (j c : Nat) (sk : SK), j < len → ks[c]? = some sk → ∃ u, cells[j * wd + c]? = some u ∧ (c ≠ c0 → relS φ (mkS sk (g (i + j) c)) u)) ∧
      ((len = 0 ∧ ∃ a, v = .slice a 0 0) ∨ ∃ a cap, len ≤ cap ∧ v = .slice (some a) len cap ∧ ∀ j u, cells[j]? = some u → w.cell? (a.add j) = some u) := by
  subst hwd
  rcases viewT_rel hv hx with ⟨h0, a, rfl⟩ | ⟨L, cap, hL, hle, hin, rfl⟩
  · subst h0
    exact ⟨[], by simp, fun j c sk hj => by omega, .inl ⟨rfl, a, rfl⟩⟩
  · rcases Nat.eq_zero_or_pos len with hz | hpos
    · subst hz
      exact ⟨[], by simp, fun j c sk hj => by omega, .inr ⟨_, cap, hle, rfl, fun j u h => by simp at h⟩⟩
    · obtain ⟨LF, cs, ty, fr, hF, hcs, hc0, hLn, hmn, hsz, _, _, _, _, _⟩ := nrow_at hrep hb hL (i := i) (by omega)
      have hle1 : (i + len) * ks.length ≤ n * ks.length := Nat.mul_le_mul_right _ (by omega)
      rw [Nat.add_mul] at hle1
      refine ⟨(cs.toList.drop (L.base + i * ks.length)).take (len * ks.length), by simp; omega, fun j c sk hj hc => ?_, .inr ⟨_, cap, hle, rfl, fun j u h => ?_⟩⟩
      · obtain ⟨LF', cs', ty', fr', _, hcs', _, _, _, _, _, _, _, hk, _⟩ := nrow_at hrep hb hL (i := i + j) (by omega)
        rw [hcs] at hcs'; cases hcs'
        obtain ⟨u, h4, h5, _⟩ := hk c sk hc
        refine ⟨u, ?_, h5⟩
        have hcl := get_lt hc
        rw [List.getElem?_take, if_pos (idx_lt hj hcl), List.getElem?_drop, ← h4]
        congr 1
        rw [Nat.add_mul]
        omega
      · rw [List.getElem?_take] at h
        split at h
        · rw [List.getElem?_drop, Array.getElem?_toList] at h
          simp only [add_zero_off, World.cell?, hcs]
          simpa using h
        · cases h

theorem run_appendNN {y : Option Nat} {sT xT ty : TypeId} {b tv : TV} {H' : AH} {a0 : Option Addr} {vb : Value} {w : World} (h : (appendNN P y H sT xT b).val = some (tv, H')) (hrep : Rep φ H w.heap) (hb : relT φ b vb) :
    ∃ u w' φ', (Builtin.append_ #[sT, xT] ty #[.slice a0 0 0, vb]).run P w = .ok u w' ∧ relT φ' tv u ∧ Rep φ' H' w'.heap ∧ Ext φ H w φ' H' w' := by
  unfold appendNN at h
  split at h
  · rename_i e e' hs hx
    split at h
    · rename_i ks c0 ms hks
      split at h
      · rename_i id2 wd2 i2 m hv
        split at h
        · rename_i ks' c0' ms' n g hh F ow own hblk
          split at h
          · rename_i hc
            obtain ⟨rfl, hw0, rfl, rfl, hwd, hby⟩ := hc
            obtain ⟨hbig, h⟩ := val_chk h
            have hbig := of_decide_eq_true hbig
            have h := val_ok h
            simp only [Prod.mk.injEq] at h
            obtain ⟨rfl, rfl⟩ := h
            obtain ⟨i, z, hi, hz, hzs, hc0, _⟩ := nKindsT_zero (φ := φ) hks
            obtain ⟨i', hi', hsz, _⟩ := sizeT_some hwd
            rw [hi] at hi'; cases hi'
            have hbytes : i.bytes ≤ 1024 := by simpa [Program.bytesOf, hi] using hby
            obtain ⟨cells, o1, o2, o3⟩ := nview_load hv hb hrep hblk rfl
            have hfc : ∃ xb xc, vb = .slice xb m xc ∧ ∀ w' : World, w'.heap = w.heap → (Builtin.firstCells ks'.length m (.slice xb m xc)).run P w' = .ok cells.toArray w' := by
              rcases o3 with ⟨h0, a, rfl⟩ | ⟨a, cap, hle, rfl, hcell⟩
              · subst h0
                refine ⟨a, 0, rfl, fun w' _ => ?_⟩
                have : cells = [] := List.length_eq_zero_iff.1 (by simpa using o1)
                subst this
                cases a with
                | none => simp [Builtin.firstCells]
                | some a => simp [Builtin.firstCells, loadCells, loadCellsFrom]
              · exact ⟨_, cap, rfl, fun w' hw' => run_firstCells_some w' _ m _ m cap cells o1 fun j u hj => by rw [← hcell j u hj]; simp [World.cell?, hw']⟩
            obtain ⟨xb, xc, rfl, hn⟩ := hfc
            let LF : Loc := ⟨0, 0, 0, 0, .nil⟩
            rcases Nat.eq_zero_or_pos m with hm | hm
            · subst hm
              have e0 : cells = [] := List.length_eq_zero_iff.1 (by simpa using o1)
              subst e0
              have hrun := run_append_room (P := P) (ty := ty) (sLen := 0) (sCap := 0) (n := 0) (news := []) (base := a0) (w' := w) hs hx hi w (by rw [hsz]; exact hn w rfl) (Nat.le_refl _) (by cases a0 <;> simp [storeCells])
              let L : Loc := ⟨0, 0, 0, 0, .nil⟩
              have hlast : (φ ++ [L, LF])[H.length]? = some L := by rw [← hrep.len]; simp
              have hlastF : (φ ++ [L, LF])[H.length + 1]? = some LF := by rw [← hrep.len]; simp
              obtain ⟨r1, r2⟩ := rep_more2 (heap' := w.heap) (L := L) (LF := LF) (B := .nrows ks' c0' ms 0 (fun j c => g (i2 + j) c) (fun _ _ => 0) (H.length + 1) (.below 0) true) hrep (Nat.le_refl _) (fun _ _ => rfl)
                (by
                  rintro b (hf | ⟨LF', j, q1, q2, _, q4⟩)
                  · have := hf.1; simp [L] at this
                  · omega)
                ⟨rfl, by simp, hc0, LF, hlastF, .inl rfl, fun j hj _ => by omega, fun _ j hj _ => by omega⟩
              exact ⟨_, _, _, hrun, ⟨L, hlast, rfl, .inl ⟨rfl, a0, rfl⟩⟩, r1, ⟨r2, rfl, rfl, rfl⟩⟩
            · have hrun := run_append_grown (P := P) (ty := ty) (base := a0) (sLen := 0) (sCap := 0) (olds := []) hs hx hi hz w (fun w' _ => by cases a0 <;> simp [Builtin.firstCells, loadCells, loadCellsFrom]) (by rw [hsz]; exact hn) (by omega) (by omega) hbytes
              rw [Nat.zero_add] at hrun
              have hge := grownCap_ge w m 0 e
              generalize grownCap w m 0 e = cap at hrun hge
              have hcsz : ((#[] : Array Value) ++ cells.toArray ++ Builtin.zeroCells z.cells (cap - m)).size = cap * ks'.length := by
                simp only [Array.size_append, Builtin.zeroCells, Array.size_map, Array.size_range, hzs, List.size_toArray, o1, Nat.sub_mul]
                have : m * ks'.length ≤ cap * ks'.length := Nat.mul_le_mul_right _ hge
                simp
                omega
              have hget : ∀ (k : Nat) (u : Value), cells[k]? = some u → ((#[] : Array Value) ++ cells.toArray ++ Builtin.zeroCells z.cells (cap - m))[k]? = some u := by
                intro k u hk
                rw [Array.getElem?_append_left (by simpa using get_lt hk)]
                simpa using hk
              have hrun' : (Builtin.append_ #[sT, xT] ty #[.slice a0 0 0, .slice xb m xc]).run P w = .ok (.slice (some ⟨w.heap.size, 0, none⟩) m cap) (w.drew.alloc (.cells ((#[] : Array Value) ++ cells.toArray ++ Builtin.zeroCells z.cells (cap - m)) e)) := hrun
              generalize ((#[] : Array Value) ++ cells.toArray ++ Builtin.zeroCells z.cells (cap - m)) = C at hrun' hcsz hget
              let L : Loc := ⟨w.heap.size, 0, cap * ks'.length, m, .nil⟩
              have hlast : (φ ++ [L, LF])[H.length]? = some L := by rw [← hrep.len]; simp
              have hlastF : (φ ++ [L, LF])[H.length + 1]? = some LF := by rw [← hrep.len]; simp
              obtain ⟨r1, r2⟩ := rep_more2 (heap' := w.heap.push (.cells C e)) (L := L) (LF := LF) (B := .nrows ks' c0' ms m (fun j c => g (i2 + j) c) (fun _ _ => 0) (H.length + 1) (.below 0) true) hrep (by simp)
                (fun b hlt => by rw [Array.getElem?_push, if_neg (Nat.ne_of_lt hlt)])
                (by
                  rintro b (hf | ⟨LF', j, _, _, q3, _⟩)
                  · exact Nat.le_of_eq hf.2
                  · exact (Nat.not_lt_zero _ q3).elim)
                ⟨rfl, Nat.mul_le_mul_right _ hge, hc0, LF, hlastF, .inr ⟨C, e, (0, 0), by simp [L], by simp [L, hcsz], fun _ => ⟨rfl, rfl⟩, fun j c sk hj hc => by
                  obtain ⟨u, q1, q2⟩ := o2 j c sk hj hc
                  exact ⟨u, by simpa [L] using hget _ _ q1, fun hne => relS.mono _ (q2 hne), fun _ hb => (Nat.not_lt_zero _ hb).elim⟩⟩, fun j _ hb => (Nat.not_lt_zero _ hb).elim, fun _ j _ hb => (Nat.not_lt_zero _ hb).elim⟩
              exact ⟨_, _, _, hrun', ⟨L, hlast, rfl, .inr ⟨cap, hge, Nat.le_refl _, rfl⟩⟩, r1, ⟨r2, rfl, rfl, rfl⟩⟩
          · simp [Tr.val] at h
        · simp [Tr.val] at h
      · simp [Tr.val] at h
    · simp [Tr.val] at h
  · simp [Tr.val] at h

theorem run_appendA {y : Option Nat} {sT xT ty : TypeId} {a b tv : TV} {H' : AH} {va vb : Value} {w : World} (h : (appendA P y H sT xT a b).val = some (tv, H')) (hrep : Rep φ H w.heap) (ha : relT φ a va) (hb : relT φ b vb) :
    ∃ u w' φ', (Builtin.append_ #[sT, xT] ty #[va, vb]).run P w = .ok u w' ∧ relT φ' tv u ∧ Rep φ' H' w'.heap ∧ Ext φ H w φ' H' w' := by
  unfold appendA at h
  split at h
  · exact run_appendM h hrep ha hb
  · split at h
    · rcases ha with ⟨_, a0, rfl⟩ | ⟨L, hL, _, _, rfl⟩
      · exact run_appendNN h hrep hb
      · exact run_appendNN h hrep hb
    · exact run_appendS h hrep ha hb
  · split at h
    · obtain ⟨a0, rfl⟩ := ha
      exact run_appendNN (a0 := some a0) h hrep hb
    · exact run_appendS h hrep ha hb
  · exact run_appendS h hrep ha hb
end
end Go.AM
end

/-
  The abstract machine, part 7: operations that turn the memory; any operation.
-/
section
namespace Go.AM

section
variable {P : Program} {Γ : Specs} {φ : Phi} {H : AH} {ρ : Operand → TV} {e : Operand → Value}

theorem run_alloc {t : TypeId} {l : List AS} (h : zeroT P t = some l) : ∃ cs : Array Value, All2 (relS φ) l cs.toList ∧ ∀ w, (Instr.alloc t true (.tuple #[])).run P w = .ok (.pointer (some ⟨w.heap.size, 0, none⟩)) { w with heap := w.heap.push (.cells cs t) } := by
  obtain ⟨i, z, hi, hz, hrel⟩ := zeroT_rel (φ := φ) h
  refine ⟨z.cells, hrel, fun w => ?_⟩
  simp [Instr.alloc, zeroValue, typeInfo, hi, hz, newVar, newRow]

theorem run_buildSliceT {t : TypeId} {len : Nat} {parts : List (Nat × AV)} {vals : Array (Nat × Value)} {tv : TV} {H' : AH} {w : World} (h : buildSliceT P H t len parts = some (tv, H')) (hrep : Rep φ H w.heap)
    (hp : All2 (fun (a : Nat × AV) (b : Nat × Value) => a.1 = b.1 ∧ relA φ a.2 b.2) parts vals.toList) :
    ∃ v w' φ', (Instr.buildSlice t len vals).run P w = .ok v w' ∧ relT φ' tv v ∧ Rep φ' H' w'.heap ∧ Ext φ H w φ' H' w' := by
  unfold buildSliceT at h
  split at h
  · rename_i el hu
    split at h
    · rename_i n hn
      split at h
      · cases h
      rename_i hbig
      split at h
      · cases h
      rename_i hn0
      split at h
      · rename_i hl0
        subst hl0
        split at h
        · rename_i ks hks
          split at h
          · rename_i hkl
            simp only [Option.some.injEq, Prod.mk.injEq] at h
            obtain ⟨rfl, rfl⟩ := h
            have hv0 : vals = #[] := by
              have := hp.length_eq
              apply Array.ext'
              simpa using this.symm
            subst hv0
            obtain ⟨r1, r2⟩ := rep_push (o := .cells #[] el) (L := ⟨w.heap.size, 0, 0, 0, .nil⟩) (B := .rows ks 0 (fun _ _ => 0) true) hrep (by intro _ hf; have := hf.1; simp at this) ⟨rfl, by simp, .inl rfl⟩
            refine ⟨.slice (some ⟨w.heap.size, 0, none⟩) 0 0, { w with heap := w.heap.push (.cells #[] el) }, _, ?_, ⟨⟨w.heap.size, 0, 0, 0, .nil⟩, by rw [← hrep.len]; simp, rfl, .inl ⟨rfl, _, rfl⟩⟩, r1, ⟨r2, rfl, rfl, rfl⟩⟩
            simp [Instr.buildSlice, run_underlying hu, run_size hn, Instr.fill, newRow, Array.range_zero']
          · cases h
        · split at h
          · rename_i ks c0 ms hks
            split at h
            · rename_i hkl
              simp only [Option.some.injEq, Prod.mk.injEq] at h
              obtain ⟨rfl, rfl⟩ := h
              have hv0 : vals = #[] := by
                have := hp.length_eq
                apply Array.ext'
                simpa using this.symm
              subst hv0
              obtain ⟨_, _, _, _, _, hc0, _⟩ := nKindsT_zero (φ := φ) hks
              let L : Loc := ⟨w.heap.size, 0, 0, 0, .nil⟩
              let LF : Loc := ⟨0, 0, 0, 0, .nil⟩
              have hlast : (φ ++ [L, LF])[H.length]? = some L := by rw [← hrep.len]; simp
              have hlastF : (φ ++ [L, LF])[H.length + 1]? = some LF := by rw [← hrep.len]; simp
              obtain ⟨r1, r2⟩ := rep_more2 (heap' := w.heap.push (.cells #[] el)) (L := L) (LF := LF) (B := .nrows ks c0 ms 0 (fun _ _ => 0) (fun _ _ => 0) (H.length + 1) .all true) hrep (by simp) (fun b hlt => by rw [Array.getElem?_push, if_neg (Nat.ne_of_lt hlt)])
                (by
                  rintro b (hf | ⟨LF', j, q1, q2, _, q4⟩)
                  · exact Nat.le_of_eq hf.2
                  · omega)
                ⟨rfl, by simp, hc0, LF, hlastF, .inl rfl, fun j hj _ => by omega, fun _ j hj _ => by omega⟩
              refine ⟨.slice (some ⟨w.heap.size, 0, none⟩) 0 0, { w with heap := w.heap.push (.cells #[] el) }, _, ?_, .inl ⟨rfl, _, rfl⟩, r1, ⟨r2, rfl, rfl, rfl⟩⟩
              simp [Instr.buildSlice, run_underlying hu, run_size hn, Instr.fill, newRow, Array.range_zero']
            · cases h
          · cases h
        · cases h
      · rename_i hl0
        split at h
        · rename_i zero hz
          split at h
          · cases h
          rename_i hzl
          have hzl : zero.length = n := by simpa using hzl
          split at h
          · rename_i l hl
            simp only [Option.some.injEq, Prod.mk.injEq] at h
            obtain ⟨rfl, rfl⟩ := h
            obtain ⟨i, z, hi, hzz, hrel⟩ := zeroT_rel (φ := φ) hz
            have hzero : ∀ w, (zeroValue el).run P w = .ok z w := fun w => by simp [zeroValue, typeInfo, hi, hzz]
            have hln : len * n ≠ 0 := Nat.mul_ne_zero hl0 hn0
            have hzs : z.cells.size = zero.length := by have := hrel.length_eq; simp at this; omega
            have hrow : All2 (relS φ) ((List.range (len * n)).map fun i => zero.getD (i % zero.length) .pnil) ((Array.range (len * n)).map (z.cells[· % z.cells.size]!)).toList := by
              refine All2.of_get (by simp) fun j a b ha hb => ?_
              simp only [List.getElem?_map, Array.toList_map, Array.toList_range] at ha hb
              cases hj : (List.range (len * n))[j]? with
              | none => simp [hj] at ha
              | some k =>
                simp only [hj, Option.map_some, Option.some.injEq] at ha hb
                have hlt : k % zero.length < zero.length := Nat.mod_lt _ (by omega)
                obtain ⟨u, hu, hr⟩ := hrel.get (List.getElem?_eq_getElem hlt)
                rw [List.getD_eq_getElem?_getD, List.getElem?_eq_getElem hlt] at ha
                simp only [Option.getD_some] at ha
                subst ha
                rw [hzs] at hb
                have hu' : z.cells[k % zero.length]? = some u := by simpa using hu
                rw [getElem!_def, hu'] at hb
                simp only at hb
                subst hb
                exact hr
            obtain ⟨ds, hds, hr⟩ := fill_rel hrow hp hl
            have hdl := hr.length_eq
            have hlast : (φ ++ [⟨w.heap.size, 0, l.length, 0, .nil⟩])[H.length]? = some (⟨w.heap.size, 0, l.length, 0, .nil⟩ : Loc) := by rw [← hrep.len]; simp
            obtain ⟨r1, r2⟩ := rep_push (o := .cells ds el) (L := ⟨w.heap.size, 0, l.length, 0, .nil⟩) (B := .cells l) hrep (by intro _ hf; exact hf.2.symm) ⟨rfl, rfl, .inr ⟨ds, el, by simp, hr.mono fun _ _ h => relS.mono _ h⟩⟩
            refine ⟨.slice (some ⟨w.heap.size, 0, none⟩) len len, { w with heap := w.heap.push (.cells ds el) }, _, ?_, .inr ⟨_, len, hlast, Nat.le_refl _, by simp⟩, r1, ⟨r2, rfl, rfl, rfl⟩⟩
            have hgt : ¬ (2 ^ 24 < len * n) := by omega
            simp only [Instr.buildSlice, Sem.run_bind, run_underlying hu, run_size hn, Result.andThen_ok]
            rw [if_neg (by omega)]
            rw [if_neg hln]
            simp only [Sem.run_bind, Sem.run_pure, Result.andThen_ok, hzero, hds, newRow, run_newObj]
          · cases h
        · cases h
    · cases h
  · cases h

theorem run_buildRowsT {t : TypeId} {len : Nat} {parts : List (Nat × AV)} {vals : Array (Nat × Value)} {tv : TV} {H' : AH} {w : World} (h : buildRowsT P H t len parts = some (tv, H')) (hrep : Rep φ H w.heap)
    (hp : All2 (fun (a : Nat × AV) (b : Nat × Value) => a.1 = b.1 ∧ relA φ a.2 b.2) parts vals.toList) :
    ∃ v w' φ', (Instr.buildSlice t len vals).run P w = .ok v w' ∧ relT φ' tv v ∧ Rep φ' H' w'.heap ∧ Ext φ H w φ' H' w' := by
  unfold buildRowsT at h
  split at h
  · rename_i el hu
    split at h
    · rename_i n ks hn hks
      split at h
      · cases h
      rename_i hbig
      split at h
      · cases h
      rename_i hcond
      have hn0 : n ≠ 0 := fun e => hcond (.inl e)
      have hl0 : len ≠ 0 := fun e => hcond (.inr (.inl e))
      have hkl : ks.length = n := Decidable.not_not.1 fun e => hcond (.inr (.inr e))
      split at h
      · rename_i zero hz
        split at h
        · cases h
        rename_i hzl
        have hzl : zero.length = n := by simpa using hzl
        split at h
        · rename_i l hl
          split at h
          · rename_i rs hrs
            split at h
            · rename_i hll
              simp only [Option.some.injEq, Prod.mk.injEq] at h
              obtain ⟨rfl, rfl⟩ := h
              obtain ⟨i, z, hi, hzz, hrel⟩ := zeroT_rel (φ := φ) hz
              have hzero : ∀ w, (zeroValue el).run P w = .ok z w := fun w => by simp [zeroValue, typeInfo, hi, hzz]
              have hln : len * n ≠ 0 := Nat.mul_ne_zero hl0 hn0
              have hzs : z.cells.size = zero.length := by have := hrel.length_eq; simp at this; omega
              have hrow : All2 (relS φ) ((List.range (len * n)).map fun i => zero.getD (i % zero.length) .pnil) ((Array.range (len * n)).map (z.cells[· % z.cells.size]!)).toList := by
                refine All2.of_get (by simp) fun j a b ha hb => ?_
                simp only [List.getElem?_map, Array.toList_map, Array.toList_range] at ha hb
                cases hj : (List.range (len * n))[j]? with
                | none => simp [hj] at ha
                | some k =>
                  simp only [hj, Option.map_some, Option.some.injEq] at ha hb
                  have hlt : k % zero.length < zero.length := Nat.mod_lt _ (by omega)
                  obtain ⟨u, hu, hr⟩ := hrel.get (List.getElem?_eq_getElem hlt)
                  rw [List.getD_eq_getElem?_getD, List.getElem?_eq_getElem hlt] at ha
                  simp only [Option.getD_some] at ha
                  subst ha
                  rw [hzs] at hb
                  have hu' : z.cells[k % zero.length]? = some u := by simpa using hu
                  rw [getElem!_def, hu'] at hb
                  simp only at hb
                  subst hb
                  exact hr
              obtain ⟨ds, hds, hr⟩ := fill_rel hrow hp hl
              have hdl := hr.length_eq
              obtain ⟨hrl, hspec⟩ := rowsOf_spec hrs
              have hlast : (φ ++ [⟨w.heap.size, 0, l.length, len, .nil⟩])[H.length]? = some (⟨w.heap.size, 0, l.length, len, .nil⟩ : Loc) := by rw [← hrep.len]; simp
              have hdl' : ds.size = l.length := by simpa using hdl.symm
              obtain ⟨r1, r2⟩ := rep_push (o := .cells ds el) (L := ⟨w.heap.size, 0, l.length, len, .nil⟩) (B := .rows ks len (rowsF rs) true) hrep (by intro _ hf; exact hf.2.symm) ⟨rfl, by rw [hkl]; exact Nat.le_of_eq hll.symm, .inr ⟨ds, el, (0, 0), by simp, by simp only; omega, fun _ => ⟨rfl, rfl⟩, fun i c sk hi hc => by
                obtain ⟨u, hu, hru⟩ := hr.get (hspec i c sk hi hc)
                refine ⟨u, by rw [Nat.zero_add]; simpa using hu, ?_⟩
                rw [rowsF_eq (by omega)]
                exact relS.mono _ hru⟩⟩
              refine ⟨.slice (some ⟨w.heap.size, 0, none⟩) len len, { w with heap := w.heap.push (.cells ds el) }, _, ?_, ⟨_, hlast, rfl, .inr ⟨len, Nat.le_refl _, Nat.le_of_eq hll.symm, rfl⟩⟩, r1, ⟨r2, rfl, rfl, rfl⟩⟩
              have hgt : ¬ (2 ^ 24 < len * n) := by omega
              simp only [Instr.buildSlice, Sem.run_bind, run_underlying hu, run_size hn, Result.andThen_ok]
              rw [if_neg (by omega)]
              rw [if_neg hln]
              simp only [Sem.run_bind, Sem.run_pure, Result.andThen_ok, hzero, hds, newRow, run_newObj]
            · cases h
          · cases h
        · cases h
      · cases h
    · cases h
  · cases h

theorem stepE_sound (hΓ : SpecOK P Γ) (hρ : ∀ x, relT φ (ρ x) (e x)) {o : Oper} {y : Option Nat} {tv : TV} {H' : AH} {w : World} (h : (stepE P Γ y ρ H o.op).val = some (tv, H')) (hrep : Rep φ H w.heap) :
    Does P φ H w ((execOp e o).run P w) tv H' := by
  unfold stepE at h
  split at h
  · rename_i t hop
    split at h
    · rename_i l hl
      obtain ⟨cs, hcs, hrun⟩ := run_alloc (φ := φ) hl
      have h' := val_ok h
      obtain ⟨φ', r1, r2, r3⟩ := rep_alloc t hrep hcs
      rw [h'] at r1 r2 r3
      exact .inl ⟨_, { w with heap := w.heap.push (.cells cs t) }, φ', .inl (by simp [execOp, hop, hrun]), r1, r2, ⟨r3, rfl, rfl, rfl⟩⟩
    · simp [Tr.val] at h
  · rename_i t x hop
    have hx := hρ x
    split at h
    · rename_i a ha
      rw [ha] at hx
      have h' := val_ok h
      obtain ⟨φ', r1, r2, r3⟩ := rep_alloc t hrep (relA.cells hx)
      rw [h'] at r1 r2 r3
      exact .inl ⟨_, { w with heap := w.heap.push (.cells (e x).cells t) }, φ', .inl (by simp [execOp, hop, Instr.box, newVar, newRow]), r1, r2, ⟨r3, rfl, rfl, rfl⟩⟩
    · simp [Tr.val] at h
  · rename_i t len parts hop
    split at h
    · rename_i ps hps
      rw [val_opt] at h
      have := partsT_rel hρ hps
      have run : ∃ v w' φ', (Instr.buildSlice t len (parts.map fun x => (x.1, e x.2))).run P w = .ok v w' ∧ relT φ' tv v ∧ Rep φ' H' w'.heap ∧ Ext φ H w φ' H' w' := by
        unfold buildY at h
        split at h
        · exact run_buildRowsT h hrep (by simpa using this)
        · exact run_buildSliceT h hrep (by simpa using this)
      obtain ⟨v, w', φ', r0, r1, r2, r3⟩ := run
      exact .inl ⟨v, w', φ', .inl (by simp [execOp, hop, r0]), r1, r2, r3⟩
    · simp [Tr.val] at h
  · rename_i t l c hop
    obtain ⟨v, w', φ', r0, r1, r2, r3⟩ := run_makeT h hrep (hρ l) (hρ c)
    exact .inl ⟨v, w', φ', .inl (by simp [execOp, hop, r0]), r1, r2, r3⟩
  · rename_i t a x hop
    rw [Tr.val_bind] at h
    cases hs : (storeS P H t (ρ a) (ρ x)).val with
    | none => simp [hs] at h
    | some H1 =>
      simp only [hs, Option.bind_some] at h
      have h' := val_ok h
      simp only [Prod.mk.injEq] at h'
      obtain ⟨rfl, rfl⟩ := h'
      obtain ⟨w', φ', r0, r1, r2⟩ := run_storeS hs hrep (hρ a) (hρ x)
      exact .inl ⟨undef, w', φ', .inr ⟨by simp [execOp, hop, r0], rfl⟩, ⟨#[], rfl, trivial⟩, r1, r2⟩
  · rename_i s d x hop
    rw [val_opt] at h
    obtain ⟨v, w', φ', r0, r1, r2, r3⟩ := run_convE h hrep (hρ x)
    exact .inl ⟨v, w', φ', .inl (by simp [execOp, hop, r0]), r1, r2, r3⟩
  · rename_i c hop
    split at h
    · rename_i hc
      split at h
      · rename_i sT xT a b h1 h2
        have e1 : c.argTypes = #[sT, xT] := by apply Array.ext'; simpa using h1
        have e2 : c.args = #[a, b] := by apply Array.ext'; simpa using h2
        obtain ⟨v, w', φ', r0, r1, r2, r3⟩ := run_appendA (ty := o.type) h hrep (hρ a) (hρ b)
        exact .inl ⟨v, w', φ', .inl (by simp [execOp, hop, resolve, hc, invoke, builtin, e1, e2, r0]), r1, r2, r3⟩
      · simp [Tr.val] at h
    · rename_i hc
      split at h
      · rename_i sT xT a b h1 h2
        rw [val_opt] at h
        have e1 : c.argTypes = #[sT, xT] := by apply Array.ext'; simpa using h1
        have e2 : c.args = #[a, b] := by apply Array.ext'; simpa using h2
        obtain ⟨v, w', φ', r0, r1, r2, r3⟩ := run_copyT (sT := xT) (ty := o.type) h hrep (hρ a) (hρ b)
        exact .inl ⟨v, w', φ', .inl (by simp [execOp, hop, resolve, hc, invoke, builtin, e1, e2, r0]), r1, r2, r3⟩
      · simp [Tr.val] at h
    · rename_i hc
      split at h
      · rename_i t a h1 h2
        have e1 : c.argTypes = #[t] := by apply Array.ext'; simpa using h1
        have e2 : c.args = #[a] := by apply Array.ext'; simpa using h2
        rw [val_opt] at h
        obtain ⟨v, w', φ', r0, r1, r2, r3⟩ := run_clearT (ty := o.type) h hrep (hρ a)
        exact .inl ⟨v, w', φ', .inl (by simp [execOp, hop, resolve, hc, invoke, builtin, e1, e2, r0]), r1, r2, r3⟩
      · simp [Tr.val] at h
    · rename_i x hc
      have hx := hρ x
      split at h
      · rename_i f caps hfx
        rw [hfx] at hx
        obtain ⟨cs, hv, hcs⟩ := hx
        have hargs : All2 (relT φ) (c.args.toList.map ρ ++ caps.map fun c => TV.v (AV.s (AS.p c.1 c.2))) (c.args.toList.map e ++ cs) := by
          refine (map_rel hρ _).append ?_
          exact All2.map_l (f := fun (c : Nat × Nat) => TV.v (AV.s (AS.p c.1 c.2))) (fun c u h => h) hcs
        have := does_call hΓ (f := f) (w := w) h hrep hargs
        have e1 : (execOp e o).run P w = (callFunc f (c.args.toList.map e ++ cs).toArray).run P w := by
          have e2 : (c.args.toList.map e ++ cs).toArray = c.args.map e ++ cs.toArray := by apply Array.ext'; simp
          simp [execOp, hop, resolve, hc, hv, Deferred.ofValue, invoke, e2]
        rw [e1]
        exact this
      · simp [Tr.val] at h
    · simp [Tr.val] at h
  · simp [Tr.val] at h

theorem step_sound (hΓ : SpecOK P Γ) (hρ : ∀ x, relT φ (ρ x) (e x)) (hf : ∀ f, e (.func f) = .func (.func f) #[] #[]) {o : Oper} {y : Option Nat} {tv : TV} {H' : AH} {w : World}
    (h : (step P Γ y ρ H o.op).val = some (tv, H')) (hrep : Rep φ H w.heap) : Does P φ H w ((execOp e o).run P w) tv H' := by
  unfold step at h
  split at h
  · rw [Tr.val_bind] at h
    cases hs : (stepN P Γ y ρ o.op).val with
    | none => simp [hs] at h
    | some v =>
      simp only [hs, Option.bind_some] at h
      have h' := val_ok h
      simp only [Prod.mk.injEq] at h'
      obtain ⟨rfl, rfl⟩ := h'
      exact stepN_sound hΓ hρ hf hs hrep
  · rw [Tr.val_bind] at h
    cases hs : (stepR P Γ y ρ H o.op).val with
    | none => simp [hs] at h
    | some v =>
      simp only [hs, Option.bind_some] at h
      have h' := val_ok h
      simp only [Prod.mk.injEq] at h'
      obtain ⟨rfl, rfl⟩ := h'
      exact stepR_sound hΓ hρ hf hs hrep
  · exact stepE_sound hΓ hρ h hrep
end
end Go.AM
end

/-
  The abstract machine, part 8: a region, in the order of the text, and in whatever order its edges allow.
-/
section
namespace Go.AM

def guardT (ops : List Oper) (tm : List TV) (j : Nat) : Option (Nat × TV) :=
  match ops[j]? with
  | some o => match o.dst with
    | some d => (tm[d]?).map fun v => (d, v)
    | none => none
  | none => none

def putT (tm : List TV) (dst : Option Nat) (v : TV) : List TV :=
  match dst with
  | some d => tm.set d (unk v)
  | none => tm

def semOp (P : Program) (Γ : Specs) (sy : Nat → Option Nat) (ops : List Oper) (tm : List TV) (H : AH) (o : Oper) : Option (TV × AH) :=
  match o.guard with
  | none => (step P Γ (sy (o.dst.getD 0)) (evalT tm) H o.op).val
  | some (j, want) => match guardT ops tm j with
    | some (_, .v (.s (.b c))) => if c = want then (step P Γ (sy (o.dst.getD 0)) (evalT tm) H o.op).val else some (.tup [], H)
    | some (_, .tup []) => some (.tup [], H)
    | _ => none

def rawT (tm : List TV) : Operand → TV
  | .tmp t => tm.getD t (.tup [])
  | .const (.bool b) => .k b
  | _ => .any

def quickT (tm : List TV) : Op → Option Bool
  | .move x => match rawT tm x with
    | .k b => some b
    | _ => none
  | .assign x => match rawT tm x with
    | .k b => some b
    | _ => none
  | .pick c a b => match rawT tm c with
    | .k true => match rawT tm a with
      | .k b => some b
      | _ => none
    | .k false => match rawT tm b with
      | .k b => some b
      | _ => none
    | _ => none
  | _ => none

def putK (tm : List TV) (dst : Option Nat) (b : Bool) : List TV :=
  match dst with
  | some d => tm.set d (.k b)
  | none => tm

def doOp (P : Program) (Γ : Specs) (sy : Nat → Option Nat) (tm : List TV) (H : AH) (o : Oper) (k : List TV → AH → Tr ASt) : Tr ASt :=
  match quickT tm o.op with
  | some b => k (putK tm o.dst b) H
  | none => (step P Γ (sy (o.dst.getD 0)) (evalT tm) H o.op).bind fun r => k (putT tm o.dst r.1) r.2

def runOps (P : Program) (Γ : Specs) (sy : Nat → Option Nat) (ops : List Oper) : List Oper → List TV → AH → Tr ASt
  | [], tm, H => .ok ⟨tm, H⟩
  | o :: rest, tm, H =>
    match o.guard with
    | none => doOp P Γ sy tm H o (runOps P Γ sy ops rest)
    | some (j, want) => match guardT ops tm j with
      | some (d, .v (.s (.b c))) => match sy d with
        | some g => .br g c
            (match want with
              | true => doOp P Γ sy (tm.set d (.k true)) H o (runOps P Γ sy ops rest)
              | false => runOps P Γ sy ops rest (putT (tm.set d (.k true)) o.dst (.tup [])) H)
            (match want with
              | true => runOps P Γ sy ops rest (putT (tm.set d (.k false)) o.dst (.tup [])) H
              | false => doOp P Γ sy (tm.set d (.k false)) H o (runOps P Γ sy ops rest))
        | none => match c, want with
          | true, true => doOp P Γ sy tm H o (runOps P Γ sy ops rest)
          | false, false => doOp P Γ sy tm H o (runOps P Γ sy ops rest)
          | _, _ => runOps P Γ sy ops rest (putT tm o.dst (.tup [])) H
      | some (_, .k c) => match c, want with
        | true, true => doOp P Γ sy tm H o (runOps P Γ sy ops rest)
        | false, false => doOp P Γ sy tm H o (runOps P Γ sy ops rest)
        | _, _ => runOps P Γ sy ops rest (putT tm o.dst (.tup [])) H
      | some (_, .tup []) => runOps P Γ sy ops rest (putT tm o.dst (.tup [])) H
      | _ => .no

def chain (P : Program) (Γ : Specs) (sy : Nat → Option Nat) (ops : List Oper) : List Oper → List TV → AH → Option ASt
  | [], tm, H => some ⟨tm, H⟩
  | o :: rest, tm, H => match semOp P Γ sy ops tm H o with
    | some (v, H') => chain P Γ sy ops rest (putT tm o.dst v) H'
    | none => none

section
variable {P : Program} {Γ : Specs} {sy : Nat → Option Nat} {φ : Phi}

theorem unk_unk (v : TV) : unk (unk v) = unk v := by
  cases v <;> rfl

theorem unk_rel {v : TV} {u : Value} : relT φ (unk v) u ↔ relT φ v u := by
  cases v <;> exact Iff.rfl

theorem evalT_map (tm : List TV) : evalT (tm.map unk) = evalT tm := by
  funext x
  cases x with
  | tmp t =>
    simp only [evalT, List.getD_eq_getElem?_getD, List.getElem?_map]
    cases tm[t]? with
    | none => rfl
    | some v => simp [unk_unk]
  | _ => rfl

theorem putT_map (tm : List TV) (dst : Option Nat) (v : TV) : (putT tm dst v).map unk = putT (tm.map unk) dst v := by
  cases dst with
  | none => rfl
  | some d => simp [putT, List.map_set, unk_unk]

theorem set_map {tm : List TV} {d : Nat} {c : Bool} (h : tm[d]? = some (.v (.s (.b c)))) : (tm.set d (.k c)).map unk = tm.map unk := by
  apply List.ext_getElem?
  intro i
  simp only [List.getElem?_map, List.getElem?_set]
  by_cases e : d = i
  · subst e
    have hlt : d < tm.length := by
      rcases Nat.lt_or_ge d tm.length with h' | h'
      · exact h'
      · simp [List.getElem?_eq_none h'] at h
    rw [if_pos rfl, if_pos hlt, h]
    rfl
  · simp [e]

theorem guardT_get {ops : List Oper} {tm : List TV} {j d : Nat} {v : TV} (h : guardT ops tm j = some (d, v)) : tm[d]? = some v ∧ ∃ o, ops[j]? = some o ∧ o.dst = some d := by
  unfold guardT at h
  split at h
  · rename_i o ho
    split at h
    · rename_i d' hd
      obtain ⟨u, hu, he⟩ := Option.map_eq_some_iff.1 h
      cases he
      exact ⟨hu, o, ho, hd⟩
    · cases h
  · cases h

theorem guardT_map {ops : List Oper} {tm : List TV} {j d : Nat} {v : TV} (h : guardT ops tm j = some (d, v)) : guardT ops (tm.map unk) j = some (d, unk v) := by
  obtain ⟨h1, o, h2, h3⟩ := guardT_get h
  simp [guardT, h2, h3, h1]

theorem rawT_eval {tm : List TV} {x : Operand} {b : Bool} (h : rawT tm x = .k b) : evalT tm x = tvb b := by
  unfold rawT at h
  split at h
  · rename_i t
    simp only [evalT, h, unk]
    rfl
  · cases h; rfl
  · cases h

theorem pickT_left {b : Bool} {v : TV} : (pickT true (tvb b) v).val = some (tvb b) := by
  unfold pickT tvb
  split
  · rename_i p q h1; cases h1; rfl
  · rename_i k p k' q h1; cases h1
  · rfl

theorem pickT_right {b : Bool} {v : TV} : (pickT false v (tvb b)).val = some (tvb b) := by
  unfold pickT tvb
  split
  · rename_i p q h1; cases h1; rfl
  · rename_i k p k' q h1; cases h1
  · rfl

theorem quickT_step {tm : List TV} {H : AH} {op : Op} {b : Bool} {y : Option Nat} (h : quickT tm op = some b) : (step P Γ y (evalT tm) H op).val = some (tvb b, H) := by
  unfold quickT at h
  split at h
  · rename_i x
    split at h
    · rename_i c hx
      cases h
      simp [step, cls, stepN, Tr.bind, Tr.val, rawT_eval hx]
    · cases h
  · rename_i x
    split at h
    · rename_i c hx
      cases h
      simp [step, cls, stepN, Tr.bind, Tr.val, rawT_eval hx]
    · cases h
  · rename_i c x z
    split at h
    · rename_i hc
      split at h
      · rename_i d hx
        cases h
        have h1 := rawT_eval hc
        have h2 := rawT_eval hx
        have e1 : tvb true = .v (.s (.b true)) := rfl
        have e2 : tvb false = .v (.s (.b false)) := rfl
        simp only [step, cls, stepN, Tr.val_bind, h1, e1]
        rw [h2]
        simp [pickT_left, Tr.val]
      · cases h
    · rename_i hc
      split at h
      · rename_i d hx
        cases h
        have h1 := rawT_eval hc
        have h2 := rawT_eval hx
        have e1 : tvb true = .v (.s (.b true)) := rfl
        have e2 : tvb false = .v (.s (.b false)) := rfl
        simp only [step, cls, stepN, Tr.val_bind, h1, e2]
        rw [h2]
        simp [pickT_right, Tr.val]
      · cases h
    · cases h
  · cases h

theorem putK_map (tm : List TV) (dst : Option Nat) (b : Bool) : (putK tm dst b).map unk = putT (tm.map unk) dst (tvb b) := by
  cases dst with
  | none => rfl
  | some d => simp [putK, putT, List.map_set, unk, tvb]

theorem runOps_chain {ops : List Oper} : ∀ {l : List Oper} {tm : List TV} {H : AH} {s : ASt}, (runOps P Γ sy ops l tm H).val = some s → chain P Γ sy ops l (tm.map unk) H = some ⟨s.tm.map unk, s.hp⟩
  | [], tm, H, s, h => by rw [runOps] at h; have := val_ok h; subst this; rfl
  | o :: rest, tm, H, s, h => by
    have doit : ∀ {tm1 : List TV}, tm1.map unk = tm.map unk → (doOp P Γ sy tm1 H o (runOps P Γ sy ops rest)).val = some s →
        ∃ v H', (step P Γ (sy (o.dst.getD 0)) (evalT (tm.map unk)) H o.op).val = some (v, H') ∧ chain P Γ sy ops rest (putT (tm.map unk) o.dst v) H' = some ⟨s.tm.map unk, s.hp⟩ := by
      intro tm1 ht h
      unfold doOp at h
      cases hq : quickT tm1 o.op with
      | some b =>
        simp only [hq] at h
        refine ⟨tvb b, H, by rw [← ht, evalT_map]; exact quickT_step hq, ?_⟩
        have := runOps_chain (l := rest) h
        rwa [putK_map, ht] at this
      | none =>
      simp only [hq] at h
      rw [Tr.val_bind] at h
      cases hs : (step P Γ (sy (o.dst.getD 0)) (evalT tm1) H o.op).val with
      | none => simp [hs] at h
      | some r =>
        refine ⟨r.1, r.2, by rw [← ht, evalT_map, hs], ?_⟩
        have := runOps_chain (l := rest) (by simpa [hs] using h)
        rwa [putT_map, ht] at this
    have skip : ∀ {tm1 : List TV}, tm1.map unk = tm.map unk → (runOps P Γ sy ops rest (putT tm1 o.dst (.tup [])) H).val = some s → chain P Γ sy ops rest (putT (tm.map unk) o.dst (.tup [])) H = some ⟨s.tm.map unk, s.hp⟩ := by
      intro tm1 ht h
      have := runOps_chain (l := rest) h
      rwa [putT_map, ht] at this
    rw [runOps] at h
    rw [chain]
    cases hg : o.guard with
    | none =>
      simp only [hg] at h
      obtain ⟨v, H', h1, h2⟩ := doit rfl h
      simp only [semOp, hg, h1]
      exact h2
    | some gw =>
      obtain ⟨j, want⟩ := gw
      simp only [hg] at h
      split at h
      · rename_i d c hgt
        have hgm := guardT_map hgt
        obtain ⟨hget, _⟩ := guardT_get hgt
        have hset : ∀ c', c = c' → (tm.set d (.k c')).map unk = tm.map unk := fun c' e => by subst e; exact set_map hget
        simp only [semOp, hg, hgm, unk]
        split at h
        · cases c
          · simp only [Tr.val] at h
            cases want
            · obtain ⟨v, H', h1, h2⟩ := doit (hset _ rfl) h
              simp only [if_true, h1]
              exact h2
            · simpa using skip (hset _ rfl) h
          · simp only [Tr.val] at h
            cases want
            · simpa using skip (hset _ rfl) h
            · obtain ⟨v, H', h1, h2⟩ := doit (hset _ rfl) h
              simp only [if_true, h1]
              exact h2
        · cases c <;> cases want <;> simp only at h
          · obtain ⟨v, H', h1, h2⟩ := doit rfl h
            simp only [if_true, h1]
            exact h2
          · simpa using skip rfl h
          · simpa using skip rfl h
          · obtain ⟨v, H', h1, h2⟩ := doit rfl h
            simp only [if_true, h1]
            exact h2
      · rename_i d c hgt
        have hgm := guardT_map hgt
        simp only [semOp, hg, hgm, unk]
        cases c <;> cases want <;> simp only at h
        · obtain ⟨v, H', h1, h2⟩ := doit rfl h
          simp only [if_true, h1]
          exact h2
        · simpa using skip rfl h
        · simpa using skip rfl h
        · obtain ⟨v, H', h1, h2⟩ := doit rfl h
          simp only [if_true, h1]
          exact h2
      · rename_i d hgt
        have hgm := guardT_map hgt
        simp only [semOp, hg, hgm, unk]
        exact skip rfl h
      · simp [Tr.val] at h

theorem map_unk_rel {tm : List TV} {vs : List Value} : All2 (relT φ) (tm.map unk) vs ↔ All2 (relT φ) tm vs := by
  induction tm generalizing vs with
  | nil => exact Iff.rfl
  | cons v tm ih =>
    cases vs with
    | nil => exact Iff.rfl
    | cons u vs => exact and_congr unk_rel ih

/-! ### one operation, in the machine -/

theorem evalT_rel {tm : List TV} {a : Act} (h : All2 (relT φ) tm a.tmps.toList) (x : Operand) : relT φ (evalT tm x) (a.eval x) := by
  cases x with
  | tmp t =>
    simp only [evalT, Act.eval]
    cases ht : tm[t]? with
    | some v =>
      obtain ⟨u, hu, hr⟩ := h.get ht
      have hu' : a.tmps[t]? = some u := by simpa using hu
      rw [List.getD_eq_getElem?_getD, ht]
      simp only [Array.getD_eq_getD_getElem?, hu', Option.getD_some]
      exact unk_rel.2 hr
    | none =>
      have hlen := h.length_eq
      have : tm.length ≤ t := List.getElem?_eq_none_iff.1 ht
      have hu' : a.tmps[t]? = none := by simp at hlen ⊢; omega
      rw [List.getD_eq_getElem?_getD, ht]
      simp only [Array.getD_eq_getD_getElem?, hu', Option.getD_none]
      exact ⟨#[], rfl, trivial⟩
  | const v =>
    simp only [evalT, Act.eval]
    split
    · rename_i a ha; exact absV_rel ha
    · trivial
  | global g => trivial
  | func f => exact ⟨[], rfl, trivial⟩

theorem put_rel {tm : List TV} {a : Act} {tv : TV} {v : Value} (h : All2 (relT φ) tm a.tmps.toList) (hv : relT φ tv v) (dst : Option Nat) : All2 (relT φ) (putT tm dst tv) (a.put dst v).tmps.toList := by
  cases dst with
  | none => exact h
  | some d => simpa [putT, Act.put] using h.set d (unk_rel.2 hv)

theorem tm_mono {tm : List TV} {vs : List Value} (ψ : Phi) (h : All2 (relT φ) tm vs) : All2 (relT (φ ++ ψ)) tm vs := h.mono fun _ _ h => relT.mono ψ h

theorem wpOp_sound (hΓ : SpecOK P Γ) {ops : Array Oper} {Q : Exit → Act → World → Prop} {i : Nat} {o : Oper} {K : Act → World → Prop} {a : Act} {w : World} {tm : List TV} {H H' : AH} {tv : TV}
    (ho : ops[i]? = some o) (hs : semOp P Γ sy ops.toList tm H o = some (tv, H')) (hrep : Rep φ H w.heap) (htm : All2 (relT φ) tm a.tmps.toList)
    (hK : ∀ φ' w' v, relT φ' tv v → Rep φ' H' w'.heap → Ext φ H w φ' H' w' → K (a.put o.dst v) w') : wpOp P ops Q i K a w := by
  unfold wpOp
  simp only [ho]
  have run : (step P Γ (sy (o.dst.getD 0)) (evalT tm) H o.op).val = some (tv, H') → o.wp P a w K Q := by
    intro h
    have hd := step_sound hΓ (evalT_rel htm) (fun f => rfl) h hrep
    unfold Oper.wp
    rcases hd with ⟨v, w', φ', hr | ⟨hr, rfl⟩, h1, h2, h3⟩ | ⟨f, args, hr, hc⟩
    · rw [hr]; exact hK φ' w' v h1 h2 h3
    · rw [hr]; exact hK φ' w' undef h1 h2 h3
    · rw [hr]
      simp only [Oper.upon]
      refine hc.mono fun e w' ⟨v, φ', he, h1, h2, h3⟩ => ?_
      subst he
      exact hK φ' w' v h1 h2 h3
  have skip : tv = .tup [] → H' = H → K (a.put o.dst undef) w := by
    rintro rfl rfl
    exact hK φ w undef ⟨#[], rfl, trivial⟩ hrep (Ext.refl _ _ _)
  unfold semOp at hs
  split at hs
  · rename_i hg
    simp only [Region.wanted, hg, if_true]
    exact .inl (run hs)
  · rename_i j want hg
    simp only [Region.wanted, hg]
    split at hs
    · rename_i d c hgt
      obtain ⟨hget, oj, hoj, hdj⟩ := guardT_get hgt
      obtain ⟨u, hu, hr⟩ := htm.get hget
      simp only [relT, relA, relS] at hr
      subst hr
      have hy : yielded ops a.tmps j = some c := by
        have h1 : ops[j]? = some oj := by simpa using hoj
        have h2 : a.tmps[d]? = some (.bool c) := by simpa using hu
        simp [yielded, h1, hdj, h2]
      rw [hy]
      split at hs
      · rename_i hc
        subst hc
        simp only [beq_self_eq_true, if_true]
        exact .inl (run hs)
      · rename_i hc
        have hne : (some c == some want) = false := by simpa using hc
        simp only [hne, Bool.false_eq_true, if_false]
        simp only [Option.some.injEq, Prod.mk.injEq] at hs
        exact skip hs.1.symm hs.2.symm
    · rename_i d hgt
      obtain ⟨hget, oj, hoj, hdj⟩ := guardT_get hgt
      obtain ⟨u, hu, hr⟩ := htm.get hget
      obtain ⟨vs, rfl, hvs⟩ := hr
      have hy : yielded ops a.tmps j = none := by
        have h1 : ops[j]? = some oj := by simpa using hoj
        have h2 : a.tmps[d]? = some (.tuple vs) := by simpa using hu
        simp [yielded, h1, hdj, h2]
      rw [hy]
      have hne : ((none : Option Bool) == some want) = false := rfl
      simp only [hne, Bool.false_eq_true, if_false]
      simp only [Option.some.injEq, Prod.mk.injEq] at hs
      exact skip hs.1.symm hs.2.symm
    · cases hs

theorem wpOps_chain (hΓ : SpecOK P Γ) {ops : Array Oper} {Q : Exit → Act → World → Prop} : ∀ (l : List Oper) (k : Nat) (a : Act) (w : World) (φ : Phi) (tm : List TV) (H : AH) (s : ASt),
    (∀ (j : Nat), l[j]? = ops[k + j]?) → chain P Γ sy ops.toList l tm H = some s → Rep φ H w.heap → All2 (relT φ) tm a.tmps.toList → a.defers = [] →
    (∀ φ' w' a', Rep φ' s.hp w'.heap → All2 (relT φ') s.tm a'.tmps.toList → a'.defers = [] → Ext φ H w φ' s.hp w' → Q .normal a' w') →
    wpOps P ops Q (List.range' k l.length) a w
  | [], k, a, w, φ, tm, H, s, _, hc, hrep, htm, hd, hQ => by
    simp only [chain, Option.some.injEq] at hc
    subst hc
    exact hQ φ w a hrep htm hd (Ext.refl _ _ _)
  | o :: rest, k, a, w, φ, tm, H, s, hl, hc, hrep, htm, hd, hQ => by
    rw [chain] at hc
    split at hc
    · rename_i v H' hs
      have ho : ops[k]? = some o := by simpa using (hl 0).symm
      simp only [List.length_cons, List.range'_succ]
      rw [wpOps_cons]
      refine wpOp_sound hΓ ho hs hrep htm fun φ' w' u h1 h2 h3 => ?_
      refine wpOps_chain hΓ rest (k + 1) _ w' φ' _ H' s (fun j => by have := hl (j + 1); simpa [Nat.add_assoc, Nat.add_comm 1 j] using this) hc h2 ?_ ?_ ?_
      · obtain ⟨ψ, rfl⟩ := h3.pre
        exact put_rel (tm_mono ψ htm) h1 o.dst
      · cases o.dst <;> exact hd
      · intro φ2 w2 a2 g1 g2 g3 g4
        exact hQ φ2 w2 a2 g1 g2 g3 (h3.trans g4)
    · cases hc
end
end Go.AM
end

/-
  The abstract machine, part 9: a region that asks the tape for its order: whichever it gets, it comes to what the text's order comes to.
-/
section
namespace Go.AM

section
variable {P : Program} {Γ : Specs} {H : AH} {B : Option Blk}

theorem loadT_mono {t : TypeId} {a v : TV} (h : (loadT P H t a).val = some v) : (loadT P (H ++ [B]) t a).val = some v := by
  unfold loadT at h ⊢
  split at h
  · rename_i id o
    cases hb : blkC H id with
    | none => rw [hb] at h; simp [Tr.val] at h
    | some x => rw [hb] at h; rw [blkC_mono hb]; exact h
  · rename_i id wd i c
    cases hb : blk H id with
    | none => rw [hb] at h; simp [Tr.val] at h
    | some x => rw [hb] at h; rw [blk_mono hb]; exact h
  · simp [Tr.val] at h

theorem loadX_mono {t : TypeId} {id wd i o n len j c : Nat} {v : TV} (h : (loadX P H t id wd i o n len j c).val = some v) : (loadX P (H ++ [B]) t id wd i o n len j c).val = some v := by
  unfold loadX at h ⊢
  cases hb : blkC H id with
  | none => rw [hb] at h; simp [Tr.val] at h
  | some x => rw [hb] at h; rw [blkC_mono hb]; exact h

theorem loadO_mono {t : TypeId} {a v : TV} (h : (loadO P H t a).val = some v) : (loadO P (H ++ [B]) t a).val = some v := by
  cases a with
  | v a =>
    cases a with
    | s a =>
      cases a <;> simp only [loadO] at h ⊢ <;> first
        | exact loadX_mono h
        | exact loadT_mono h
    | agg l => simp only [loadO] at h ⊢; exact loadT_mono h
  | _ => simp only [loadO] at h ⊢; exact loadT_mono h

theorem loadN_mono {t : TypeId} {a v : TV} {r : Tr TV} (h : loadN P H t a = some r) (hv : r.val = some v) : loadN P (H ++ [B]) t a = some r := by
  unfold loadN at h ⊢
  split at h
  · rename_i id wd i c
    cases hb : blk H id with
    | none => rw [hb] at h; cases h
    | some b => rw [hb] at h; rw [blk_mono hb]; exact h
  · rename_i id wd i o n len j c
    cases hb : blk H id with
    | none => rw [hb] at h; cases h
    | some b => rw [hb] at h; rw [blk_mono hb]; exact h
  · rename_i id F wd i j o n len jj c
    cases hb : blk H id with
    | none => rw [hb] at h; cases h; simp [Tr.val] at hv
    | some b => rw [hb] at h; rw [blk_mono hb]; exact h
  · cases h

theorem loadN_none {t : TypeId} {a v : TV} (h : loadN P H t a = none) (hv : (loadO P H t a).val = some v) : loadN P (H ++ [B]) t a = none := by
  unfold loadN at h ⊢
  split at h
  · rename_i id wd i c
    cases hb : blk H id with
    | none => simp [loadO, loadT, hb, Tr.val] at hv
    | some b => rw [hb] at h; rw [blk_mono hb]; exact h
  · rename_i id wd i o n len j c
    cases hb : blk H id with
    | none => simp [loadO, loadX, blkC, hb, Tr.val] at hv
    | some b => rw [hb] at h; rw [blk_mono hb]; exact h
  · cases h
  · rfl

theorem loadS_mono {t : TypeId} {a v : TV} (h : (loadS P H t a).val = some v) : (loadS P (H ++ [B]) t a).val = some v := by
  unfold loadS at h ⊢
  cases hn : loadN P H t a with
  | some r => rw [hn] at h; rw [loadN_mono hn h]; exact h
  | none => rw [hn] at h; rw [loadN_none hn h]; exact loadO_mono h

theorem bytesStrT_mono {s d : TypeId} {x v : TV} (h : bytesStrT P H s d x = some v) : bytesStrT P (H ++ [B]) s d x = some v := by
  unfold bytesStrT at h ⊢
  cases hv : viewT x with
  | none => simp only [hv] at h; (repeat' split at h) <;> simp at h
  | some q =>
    obtain ⟨id, wd, i, len⟩ := q
    cases hb : blk H id with
    | none => simp only [hv, hb] at h; (repeat' split at h) <;> simp at h
    | some b =>
      simp only [hv, hb] at h
      simp only [hv, blk_mono hb]
      exact h

theorem dynR_mono (hM : ∀ f, MonoS (Γ f)) {x v : TV} {args : List TV} (h : (dynR Γ x args H).val = some v) : (dynR Γ x args (H ++ [B])).val = some v := by
  unfold dynR at h ⊢
  split at h
  · rename_i f caps
    cases hf : Γ f with
    | read F =>
      rw [hf] at h
      have := hM f
      rw [hf] at this
      exact this _ _ _ _ h
    | _ => rw [hf] at h; exact h
  · simp [Tr.val] at h

theorem stepR_mono (hM : ∀ f, MonoS (Γ f)) {y : Option Nat} {ρ : Operand → TV} {op : Op} {v : TV} (h : (stepR P Γ y ρ H op).val = some v) : (stepR P Γ y ρ (H ++ [B]) op).val = some v := by
  unfold stepR at h ⊢
  split at h
  · exact loadS_mono h
  · rw [val_opt] at h
    simp only [val_opt]
    exact bytesStrT_mono h
  · rename_i c
    split at h
    · rename_i f hc
      cases hf : Γ f with
      | read F =>
        rw [hf] at h
        have := hM f
        rw [hf] at this
        exact this _ _ _ _ h
      | _ => rw [hf] at h; exact h
    · rename_i t hc
      exact dynR_mono hM h
    · simp [Tr.val] at h
  · simp [Tr.val] at h

theorem stepR_monos (hM : ∀ f, MonoS (Γ f)) {y : Option Nat} {ρ : Operand → TV} {op : Op} {v : TV} : ∀ {Bs : AH} {H : AH}, (stepR P Γ y ρ H op).val = some v → (stepR P Γ y ρ (H ++ Bs) op).val = some v
  | [], H, h => by simpa using h
  | B :: Bs, H, h => by
    have := stepR_monos hM (Bs := Bs) (stepR_mono (B := B) hM h)
    simpa using this
end

def maskOf (acc : List Nat) (o : Oper) : Nat :=
  o.after.toList.foldl (fun s e => if Region.binds .any e then s ||| 2 ^ e.on ||| acc.getD e.on 0 else s) 0

def masks : List Oper → List Nat → List Nat
  | [], acc => acc
  | o :: os, acc => masks os (acc ++ [maskOf acc o])

def looks (ops : List Oper) (o : Oper) : List Nat :=
  (o.op.operands.toList.filterMap fun | .tmp t => some t | _ => none) ++
  (match o.guard with
   | some (g, _) => match ops[g]? with
     | some og => og.dst.toList
     | none => []
   | none => [])

def isAlloc : Op → Bool
  | .alloc _ | .buildSlice .. => true
  | _ => false

structure Info where
  dst : Option Nat
  lks : List Nat
  cl : Cl
  al : Bool

def infoOf (P : Program) (Γ : Specs) (ops : List Oper) (o : Oper) : Info := ⟨o.dst, looks ops o, cls P Γ o.op, isAlloc o.op⟩

def memb (d : Option Nat) (l : List Nat) : Bool :=
  match d with
  | some d => l.contains d
  | none => false

def meets (x y : Info) : Bool :=
  memb x.dst y.lks || memb y.dst x.lks || memb x.dst y.dst.toList ||
  (match x.cl, y.cl with
   | .E, .R | .E, .E => true
   | .R, .E => !y.al
   | _, _ => false)

def rowOk (y : Info) (my : Nat) : (i : Nat) → List Info → Bool
  | _, [] => true
  | i, x :: xs => (!(meets x y) || my.testBit i) && rowOk y my (i + 1) xs

def rowsOk : (before : List Info) → List Info → List Nat → Bool
  | b, y :: ys, m :: ms => rowOk y m 0 b && rowsOk (b ++ [y]) ys ms
  | _, _, _ => true

def edgesOk : (k : Nat) → List Oper → Bool
  | _, [] => true
  | k, o :: os => (o.after.toList.all fun e => !(Region.binds .any e) || decide (e.on < k)) && edgesOk (k + 1) os

def orderOk (P : Program) (Γ : Specs) (ops : List Oper) : Bool :=
  edgesOk 0 ops && rowsOk [] (ops.map (infoOf P Γ ops)) (masks ops [])

section
variable {P : Program} {Γ : Specs} {sy : Nat → Option Nat}

theorem foldl_mask (acc : List Nat) (j : Nat) : ∀ (es : List Edge) (s : Nat), (es.foldl (fun s e => if Region.binds .any e then s ||| 2 ^ e.on ||| acc.getD e.on 0 else s) s).testBit j = true →
    s.testBit j = true ∨ ∃ e ∈ es, Region.binds .any e = true ∧ (e.on = j ∨ (acc.getD e.on 0).testBit j = true)
  | [], s, h => .inl h
  | e :: es, s, h => by
    simp only [List.foldl_cons] at h
    rcases foldl_mask acc j es _ h with h' | ⟨e', h1, h2⟩
    · by_cases hb : Region.binds .any e = true
      · simp only [hb, if_true, Nat.testBit_or, Bool.or_eq_true, Nat.testBit_two_pow, decide_eq_true_eq] at h'
        rcases h' with (h' | h') | h'
        · exact .inl h'
        · exact .inr ⟨e, by simp, hb, .inl h'⟩
        · exact .inr ⟨e, by simp, hb, .inr h'⟩
      · simp only [hb, Bool.false_eq_true, if_false] at h'
        exact .inl h'
    · exact .inr ⟨e', by simp [h1], h2⟩

theorem maskOf_spec {acc : List Nat} {o : Oper} {j : Nat} (h : (maskOf acc o).testBit j = true) : ∃ e ∈ o.after.toList, Region.binds .any e = true ∧ (e.on = j ∨ (acc.getD e.on 0).testBit j = true) := by
  rcases foldl_mask acc j _ _ h with h' | h'
  · simp at h'
  · exact h'

theorem masks_append : ∀ (os : List Oper) (acc : List Nat), ∃ r, masks os acc = acc ++ r ∧ r.length = os.length
  | [], acc => ⟨[], by simp [masks], rfl⟩
  | o :: os, acc => by
    obtain ⟨r, h1, h2⟩ := masks_append os (acc ++ [maskOf acc o])
    exact ⟨maskOf acc o :: r, by rw [masks, h1]; simp, by simp [h2]⟩

theorem masks_get : ∀ (os : List Oper) (acc : List Nat) (k : Nat) (o : Oper), os[k]? = some o → (masks os acc)[acc.length + k]? = some (maskOf ((masks os acc).take (acc.length + k)) o)
  | [], acc, k, o, h => by simp at h
  | x :: os, acc, 0, o, h => by
    simp at h
    subst h
    obtain ⟨r, h1, h2⟩ := masks_append os (acc ++ [maskOf acc x])
    rw [masks, h1]
    simp
  | x :: os, acc, k + 1, o, h => by
    simp at h
    have := masks_get os (acc ++ [maskOf acc x]) k o h
    rw [masks]
    simp only [List.length_append, List.length_singleton] at this
    rw [show acc.length + (k + 1) = acc.length + 1 + k by omega]
    exact this

theorem rowOk_spec {y : Info} {my : Nat} : ∀ {xs : List Info} {i : Nat}, rowOk y my i xs = true → ∀ (j : Nat) (x : Info), xs[j]? = some x → meets x y = true → my.testBit (i + j) = true
  | [], i, _, j, x, hx, _ => by simp at hx
  | z :: xs, i, h, 0, x, hx, hm => by
    simp at hx
    subst hx
    simp only [rowOk, Bool.and_eq_true, Bool.or_eq_true, Bool.not_eq_true'] at h
    rcases h.1 with h' | h'
    · rw [hm] at h'; cases h'
    · exact h'
  | z :: xs, i, h, j + 1, x, hx, hm => by
    simp at hx
    simp only [rowOk, Bool.and_eq_true] at h
    have := rowOk_spec h.2 j x hx hm
    rwa [show i + (j + 1) = i + 1 + j by omega]

theorem rowsOk_spec : ∀ {ys : List Info} {ms : List Nat} {b : List Info}, rowsOk b ys ms = true → ys.length = ms.length → ∀ (j i : Nat) (x y : Info) (m : Nat), i < b.length + j → (b ++ ys)[i]? = some x → ys[j]? = some y → ms[j]? = some m →
    meets x y = true → m.testBit i = true
  | [], ms, b, _, _, j, i, x, y, m, _, _, hy, _, _ => by simp at hy
  | z :: ys, [], b, _, hl, _, _, _, _, _, _, _, _, _, _ => by simp at hl
  | z :: ys, m0 :: ms, b, h, hl, 0, i, x, y, m, hi, hx, hy, hm, hmt => by
    simp at hy hm
    subst hy; subst hm
    simp only [rowsOk, Bool.and_eq_true] at h
    have hx' : b[i]? = some x := by rw [List.getElem?_append_left (by omega)] at hx; exact hx
    have := rowOk_spec h.1 i x hx' hmt
    simpa using this
  | z :: ys, m0 :: ms, b, h, hl, j + 1, i, x, y, m, hi, hx, hy, hm, hmt => by
    simp at hy hm
    simp only [rowsOk, Bool.and_eq_true] at h
    exact rowsOk_spec h.2 (by simpa using hl) j i x y m (by simp; omega) (by simpa using hx) hy hm hmt

theorem edgesOk_spec : ∀ {os : List Oper} {k : Nat}, edgesOk k os = true → ∀ (j : Nat) (o : Oper), os[j]? = some o → ∀ e ∈ o.after.toList, Region.binds .any e = true → e.on < k + j
  | [], k, _, j, o, ho, _, _, _ => by simp at ho
  | z :: os, k, h, 0, o, ho, e, he, hb => by
    simp at ho
    subst ho
    simp only [edgesOk, Bool.and_eq_true, List.all_eq_true] at h
    have := h.1 e he
    simp [hb] at this
    omega
  | z :: os, k, h, j + 1, o, ho, e, he, hb => by
    simp at ho
    simp only [edgesOk, Bool.and_eq_true] at h
    have := edgesOk_spec h.2 j o ho e he hb
    omega

theorem waits_of_meets {ops : List Oper} (h : orderOk P Γ ops = true) {i j : Nat} {x y : Oper} (hij : i < j) (hx : ops[i]? = some x) (hy : ops[j]? = some y) (hm : meets (infoOf P Γ ops x) (infoOf P Γ ops y) = true) :
    ∃ m, (masks ops [])[j]? = some m ∧ m.testBit i = true := by
  simp only [orderOk, Bool.and_eq_true] at h
  have hg := masks_get ops [] j y hy
  simp only [List.length_nil, Nat.zero_add] at hg
  refine ⟨_, hg, ?_⟩
  obtain ⟨r, h1, h2⟩ := masks_append ops []
  exact rowsOk_spec h.2 (by rw [h1]; simp [h2]) j i _ _ _ (by simpa using hij) (by simp [hx]) (by simp [hy]) hg hm

theorem closed_mask {ops : List Oper} (h : orderOk P Γ ops = true) {S : Nat → Bool} (hS : ∀ (k : Nat) (o : Oper), ops[k]? = some o → S k = true → ∀ e ∈ o.after.toList, Region.binds .any e = true → S e.on = true) :
    ∀ (k : Nat) (o : Oper) (m j : Nat), ops[k]? = some o → (∀ e ∈ o.after.toList, Region.binds .any e = true → S e.on = true) → (masks ops [])[k]? = some m → m.testBit j = true → S j = true := by
  have hE := (by simpa only [orderOk, Bool.and_eq_true] using h : edgesOk 0 ops = true ∧ _).1
  intro k
  induction k using Nat.strongRecOn with
  | _ k ih =>
    intro o m j ho hS0 hm hj
    have hg := masks_get ops [] k o ho
    simp only [List.length_nil, Nat.zero_add] at hg
    rw [hm] at hg
    cases hg
    obtain ⟨e, he, hb, hej⟩ := maskOf_spec hj
    rcases hej with rfl | hej
    · exact hS0 e he hb
    · have hlt := edgesOk_spec hE k o ho e he hb
      simp only [Nat.zero_add] at hlt
      have hSe := hS0 e he hb
      cases hoe : ops[e.on]? with
      | none =>
        have : ops.length ≤ e.on := List.getElem?_eq_none_iff.1 hoe
        have : k < ops.length := by
          rcases Nat.lt_or_ge k ops.length with h' | h'
          · exact h'
          · simp [List.getElem?_eq_none h'] at ho
        omega
      | some oe =>
        have hme := masks_get ops [] e.on oe hoe
        simp only [List.length_nil, Nat.zero_add] at hme
        refine ih e.on hlt oe _ j hoe (hS e.on oe hoe hSe) hme ?_
        rw [List.getD_eq_getElem?_getD, List.getElem?_take, if_pos hlt, hme] at hej
        exact hej

/-! ### a step looks at its operands alone -/

theorem partsT_congr {ρ ρ' : Operand → TV} : ∀ {l : List (Nat × Operand)}, (∀ x ∈ l.map (·.2), ρ x = ρ' x) → partsT ρ l = partsT ρ' l
  | [], _ => rfl
  | (i, x) :: l, h => by
    simp only [partsT]
    rw [h x (by simp), partsT_congr (l := l) fun y hy => h y (by simp at hy ⊢; exact .inr hy)]

theorem capsT_congr {ρ ρ' : Operand → TV} : ∀ {l : List Operand}, (∀ x ∈ l, ρ x = ρ' x) → capsT ρ l = capsT ρ' l
  | [], _ => rfl
  | x :: l, h => by
    simp only [capsT]
    rw [h x (by simp), capsT_congr (l := l) fun y hy => h y (by simp [hy])]

theorem map_congr' {ρ ρ' : Operand → TV} {l : List Operand} (h : ∀ x ∈ l, ρ x = ρ' x) : l.map ρ = l.map ρ' := List.map_congr_left h

theorem omap_congr {ρ ρ' : Operand → TV} {o : Option Operand} (h : ∀ x ∈ o.toArray, ρ x = ρ' x) : o.map ρ = o.map ρ' := by
  cases o with
  | none => rfl
  | some x => simp [h x (by simp)]

theorem step_congr {ρ ρ' : Operand → TV} {y : Option Nat} {H : AH} {op : Op} (h : ∀ x ∈ op.operands.toList, ρ x = ρ' x) : step P Γ y ρ H op = step P Γ y ρ' H op := by
  have hcall : ∀ c : Call, op = .call c → ∀ x ∈ c.args.toList, ρ x = ρ' x := by
    rintro c rfl x hx
    exact h x (by simp only [Op.operands, Call.operands, Array.toList_append, List.mem_append]; exact .inr hx)
  unfold step
  have eN : stepN P Γ y ρ op = stepN P Γ y ρ' op := by
    cases op <;> simp only [stepN]
    case move x => rw [h x (by simp [Op.operands])]
    case assign x => rw [h x (by simp [Op.operands])]
    case nilCheck x => rw [h x (by simp [Op.operands])]
    case unOp op t x => rw [h x (by simp [Op.operands])]
    case sliceToArrayPointer d x => rw [h x (by simp [Op.operands])]
    case convert s d x => rw [h x (by simp [Op.operands])]
    case fieldAddr s x f => rw [h x (by simp [Op.operands])]
    case field s x f => rw [h x (by simp [Op.operands])]
    case extract x i => rw [h x (by simp [Op.operands])]
    case build t parts =>
      rw [partsT_congr (ρ := ρ) (ρ' := ρ') (l := parts.toList)]
      intro x hx
      exact h x (by simpa [Op.operands] using hx)
    case pick c a b =>
      simp only [h c (by simp [Op.operands]), h a (by simp [Op.operands]), h b (by simp [Op.operands])]
    case binOp op t a b yt =>
      simp only [h a (by simp [Op.operands]), h b (by simp [Op.operands])]
    case makeFunc fn first captured =>
      cases fn <;> simp only
      rw [capsT_congr (ρ := ρ) (ρ' := ρ') (l := captured.toList)]
      intro x hx
      exact h x (by simp only [Op.operands, Array.toList_append, List.mem_append]; exact .inr hx)
    case slice t x lo hi mx =>
      have e1 := h x (by simp [Op.operands])
      have e2 : lo.map ρ = lo.map ρ' := omap_congr fun z hz => h z (by simp only [Op.operands, Array.toList_append, List.mem_append]; exact .inl (.inl (.inr (by simpa using hz))))
      have e3 : hi.map ρ = hi.map ρ' := omap_congr fun z hz => h z (by simp only [Op.operands, Array.toList_append, List.mem_append]; exact .inl (.inr (by simpa using hz)))
      have e4 : mx.map ρ = mx.map ρ' := omap_congr fun z hz => h z (by simp only [Op.operands, Array.toList_append, List.mem_append]; exact .inr (by simpa using hz))
      rw [e1, e2, e3, e4]
    case indexAddr t x ix =>
      simp only [h x (by simp [Op.operands]), h ix (by simp [Op.operands])]
    case index t x ix =>
      simp only [h x (by simp [Op.operands]), h ix (by simp [Op.operands])]
    case call c =>
      have ha := hcall c rfl
      have e1 : c.args.toList.map ρ = c.args.toList.map ρ' := map_congr' ha
      cases hcc : c.callee with
      | value f => cases f <;> simp only [e1]
      | invoke r m => rfl
      | builtin b =>
        cases hca : c.args.toList with
        | nil => cases b <;> first | rfl | (cases c.argTypes.toList <;> rfl) | (rcases c.argTypes.toList with _ | ⟨t, _ | _⟩ <;> rfl)
        | cons x rest =>
          rw [hca] at ha
          have e2 : ρ x = ρ' x := ha x (by simp)
          have e3 : rest.map ρ = rest.map ρ' := map_congr' fun z hz => ha z (by simp [hz])
          cases b <;> first
            | (simp only [e2, e3]; done)
            | rfl
            | (rcases c.argTypes.toList with _ | ⟨t, _ | _⟩ <;> cases rest <;> simp only [e2])
  have eR : stepR P Γ y ρ H op = stepR P Γ y ρ' H op := by
    cases op <;> simp only [stepR]
    case load t a => rw [h a (by simp [Op.operands])]
    case convert s d x => rw [h x (by simp [Op.operands])]
    case call c =>
      have e1 : c.args.toList.map ρ = c.args.toList.map ρ' := map_congr' (hcall c rfl)
      cases hcc : c.callee with
      | value f =>
        have e2 : ρ f = ρ' f := h f (by simp [Op.operands, Call.operands, hcc])
        cases f <;> simp only [e1, e2]
      | invoke r m => rfl
      | builtin b => rfl
  have eE : stepE P Γ y ρ H op = stepE P Γ y ρ' H op := by
    cases op <;> simp only [stepE]
    case box t x => rw [h x (by simp [Op.operands])]
    case buildSlice t len parts =>
      rw [partsT_congr (ρ := ρ) (ρ' := ρ') (l := parts.toList)]
      intro x hx
      exact h x (by simpa [Op.operands] using hx)
    case makeSlice t l c => simp only [h l (by simp [Op.operands]), h c (by simp [Op.operands])]
    case store t a x => rw [h a (by simp [Op.operands]), h x (by simp [Op.operands])]
    case convert s d x => rw [h x (by simp [Op.operands])]
    case call c =>
      have ha := hcall c rfl
      have e1 : c.args.toList.map ρ = c.args.toList.map ρ' := map_congr' ha
      cases hcc : c.callee with
      | value f =>
        have e2 : ρ f = ρ' f := h f (by simp [Op.operands, Call.operands, hcc])
        simp only [e1, e2]
      | invoke r m => rfl
      | builtin b =>
        cases hca : c.args.toList with
        | nil => cases b <;> first | rfl | (rcases c.argTypes.toList with _ | ⟨t, _ | ⟨t2, _ | _⟩⟩ <;> rfl)
        | cons x rest =>
          rw [hca] at ha
          have e2 : ρ x = ρ' x := ha x (by simp)
          cases rest with
          | nil => cases b <;> first | rfl | (rcases c.argTypes.toList with _ | ⟨t, _ | ⟨t2, _ | _⟩⟩ <;> simp only [e2])
          | cons x2 rest =>
            have e3 : ρ x2 = ρ' x2 := ha x2 (by simp)
            cases b <;> first | rfl | (rcases c.argTypes.toList with _ | ⟨t, _ | ⟨t2, _ | _⟩⟩ <;> cases rest <;> simp only [e2, e3])
  rw [eN, eR, eE]

end
end Go.AM
end

/-
  The abstract machine, part 10: a region that asks the tape for its order, the theorem.
-/
section
namespace Go.AM

def lastW (ops : List Oper) (p : Nat → Bool) (t : Nat) : Nat → Option Nat
  | 0 => none
  | k + 1 => if p k = true ∧ (ops[k]?).bind (·.dst) = some t then some k else lastW ops p t k

def lastE (P : Program) (Γ : Specs) (ops : List Oper) (p : Nat → Bool) : Nat → Option Nat
  | 0 => none
  | k + 1 => if p k = true ∧ (ops[k]?).map (fun o => cls P Γ o.op) = some Cl.E then some k else lastE P Γ ops p k

section
variable {P : Program} {Γ : Specs} {sy : Nat → Option Nat} {ops : List Oper}

theorem lastW_congr {p q : Nat → Bool} {t : Nat} : ∀ {k : Nat}, (∀ j, j < k → (ops[j]?).bind (·.dst) = some t → p j = q j) → lastW ops p t k = lastW ops q t k
  | 0, _ => rfl
  | k + 1, h => by
    simp only [lastW]
    rw [lastW_congr (k := k) fun j hj => h j (by omega)]
    by_cases hd : (ops[k]?).bind (·.dst) = some t
    · rw [h k (by omega) hd]
    · simp [hd]

theorem lastW_skip {p : Nat → Bool} {t i : Nat} : ∀ {k : Nat}, i ≤ k → (∀ j, i ≤ j → j < k → (ops[j]?).bind (·.dst) = some t → p j = false) → lastW ops p t k = lastW ops p t i
  | 0, hi, _ => by have : i = 0 := by omega
                   subst this; rfl
  | k + 1, hi, h => by
    rcases Nat.eq_or_lt_of_le hi with rfl | hlt
    · rfl
    · simp only [lastW]
      rw [if_neg]
      · exact lastW_skip (by omega) fun j h1 h2 => h j h1 (by omega)
      · rintro ⟨h1, h2⟩
        rw [h k (by omega) (by omega) h2] at h1
        cases h1

theorem lastE_congr {p q : Nat → Bool} : ∀ {k : Nat}, (∀ j, j < k → (ops[j]?).map (fun o => cls P Γ o.op) = some Cl.E → p j = q j) → lastE P Γ ops p k = lastE P Γ ops q k
  | 0, _ => rfl
  | k + 1, h => by
    simp only [lastE]
    rw [lastE_congr (k := k) fun j hj => h j (by omega)]
    by_cases hd : (ops[k]?).map (fun o => cls P Γ o.op) = some Cl.E
    · rw [h k (by omega) hd]
    · simp [hd]

theorem lastE_skip {p : Nat → Bool} {i : Nat} : ∀ {k : Nat}, i ≤ k → (∀ j, i ≤ j → j < k → (ops[j]?).map (fun o => cls P Γ o.op) = some Cl.E → p j = false) → lastE P Γ ops p k = lastE P Γ ops p i
  | 0, hi, _ => by have : i = 0 := by omega
                   subst this; rfl
  | k + 1, hi, h => by
    rcases Nat.eq_or_lt_of_le hi with rfl | hlt
    · rfl
    · simp only [lastE]
      rw [if_neg]
      · exact lastE_skip (by omega) fun j h1 h2 => h j h1 (by omega)
      · rintro ⟨h1, h2⟩
        rw [h k (by omega) (by omega) h2] at h1
        cases h1

structure Run (P : Program) (Γ : Specs) (sy : Nat → Option Nat) (ops : List Oper) (T : Nat → List TV) (Hs : Nat → AH) (vs : Nat → TV) : Prop where
  step : ∀ (k : Nat) (o : Oper), ops[k]? = some o → semOp P Γ sy ops (T k) (Hs k) o = some (vs k, Hs (k + 1)) ∧ T (k + 1) = putT (T k) o.dst (vs k)

theorem run_of_chain {all : List Oper} : ∀ {l : List Oper} {tm : List TV} {H : AH} {s : ASt}, chain P Γ sy all l tm H = some s →
    ∃ (T : Nat → List TV) (Hs : Nat → AH) (vs : Nat → TV), T 0 = tm ∧ Hs 0 = H ∧ T l.length = s.tm ∧ Hs l.length = s.hp ∧
      ∀ (k : Nat) (o : Oper), l[k]? = some o → semOp P Γ sy all (T k) (Hs k) o = some (vs k, Hs (k + 1)) ∧ T (k + 1) = putT (T k) o.dst (vs k)
  | [], tm, H, s, h => by
    simp only [chain, Option.some.injEq] at h
    subst h
    exact ⟨fun _ => tm, fun _ => H, fun _ => .any, rfl, rfl, rfl, rfl, fun k o h => by simp at h⟩
  | o :: l, tm, H, s, h => by
    rw [chain] at h
    split at h
    · rename_i v H' hs
      obtain ⟨T, Hs, vs, h1, h2, h3, h4, h5⟩ := run_of_chain h
      refine ⟨fun | 0 => tm | k + 1 => T k, fun | 0 => H | k + 1 => Hs k, fun | 0 => v | k + 1 => vs k, rfl, rfl, h3, h4, ?_⟩
      intro k o' hk
      cases k with
      | zero =>
        simp at hk
        subst hk
        exact ⟨by simpa [h2] using hs, h1⟩
      | succ k =>
        simp at hk
        exact h5 k o' hk
    · cases h

def valAt (ops : List Oper) (vs : Nat → TV) (tm0 : List TV) (p : Nat → Bool) (k t : Nat) : Option TV :=
  match lastW ops p t k with
  | none => tm0[t]?
  | some j => if t < tm0.length then some (unk (vs j)) else none

def heapAt (P : Program) (Γ : Specs) (ops : List Oper) (Hs : Nat → AH) (p : Nat → Bool) (k : Nat) : AH :=
  match lastE P Γ ops p k with
  | none => Hs 0
  | some j => Hs (j + 1)

theorem putT_get {tm : List TV} {dst : Option Nat} {v : TV} {t : Nat} : (putT tm dst v)[t]? = if dst = some t then (if t < tm.length then some (unk v) else none) else tm[t]? := by
  cases dst with
  | none => simp [putT]
  | some d =>
    simp only [putT, List.getElem?_set, Option.some.injEq]
    by_cases e : d = t
    · subst e; simp
    · simp [e]

theorem putT_length {tm : List TV} {dst : Option Nat} {v : TV} : (putT tm dst v).length = tm.length := by
  cases dst <;> simp [putT]

variable {T : Nat → List TV} {Hs : Nat → AH} {vs : Nat → TV}

theorem Run.length (hr : Run P Γ sy ops T Hs vs) : ∀ k, k ≤ ops.length → (T k).length = (T 0).length
  | 0, _ => rfl
  | k + 1, hk => by
    obtain ⟨o, ho⟩ : ∃ o, ops[k]? = some o := ⟨ops[k]'(by omega), List.getElem?_eq_getElem (by omega)⟩
    rw [(hr.step k o ho).2, putT_length, hr.length k (by omega)]

theorem Run.val (hr : Run P Γ sy ops T Hs vs) : ∀ k, k ≤ ops.length → ∀ t, (T k)[t]? = valAt ops vs (T 0) (fun _ => true) k t
  | 0, _, t => rfl
  | k + 1, hk, t => by
    obtain ⟨o, ho⟩ : ∃ o, ops[k]? = some o := ⟨ops[k]'(by omega), List.getElem?_eq_getElem (by omega)⟩
    rw [(hr.step k o ho).2, putT_get]
    unfold valAt
    simp only [lastW, ho, Option.bind_some]
    by_cases hd : o.dst = some t
    · simp [hd, hr.length k (by omega)]
    · simp only [hd, if_false, and_false]
      exact hr.val k (by omega) t

theorem semOp_keeps {tm : List TV} {H H' : AH} {o : Oper} {v : TV} (h : semOp P Γ sy ops tm H o = some (v, H')) (hc : cls P Γ o.op ≠ .E) : H' = H := by
  have key : (step P Γ (sy (o.dst.getD 0)) (evalT tm) H o.op).val = some (v, H') → H' = H := by
    intro h
    unfold step at h
    split at h
    · rw [Tr.val_bind] at h
      cases hs : (stepN P Γ (sy (o.dst.getD 0)) (evalT tm) o.op).val with
      | none => simp [hs] at h
      | some u => simp only [hs, Option.bind_some] at h; have := val_ok h; simp only [Prod.mk.injEq] at this; exact this.2.symm
    · rw [Tr.val_bind] at h
      cases hs : (stepR P Γ (sy (o.dst.getD 0)) (evalT tm) H o.op).val with
      | none => simp [hs] at h
      | some u => simp only [hs, Option.bind_some] at h; have := val_ok h; simp only [Prod.mk.injEq] at this; exact this.2.symm
    · rename_i he; exact (hc he).elim
  unfold semOp at h
  split at h
  · exact key h
  · split at h
    · split at h
      · exact key h
      · simp only [Option.some.injEq, Prod.mk.injEq] at h; exact h.2.symm
    · simp only [Option.some.injEq, Prod.mk.injEq] at h; exact h.2.symm
    · cases h

theorem Run.heap (hr : Run P Γ sy ops T Hs vs) : ∀ k, k ≤ ops.length → Hs k = heapAt P Γ ops Hs (fun _ => true) k
  | 0, _ => rfl
  | k + 1, hk => by
    obtain ⟨o, ho⟩ : ∃ o, ops[k]? = some o := ⟨ops[k]'(by omega), List.getElem?_eq_getElem (by omega)⟩
    unfold heapAt
    simp only [lastE, ho, Option.map_some, true_and]
    by_cases hc : cls P Γ o.op = .E
    · simp [hc]
    · simp only [Option.some.injEq, hc, if_false]
      rw [semOp_keeps (hr.step k o ho).1 hc]
      exact hr.heap k (by omega)

theorem buildSliceT_grows {t : TypeId} {len : Nat} {ps : List (Nat × AV)} {H H' : AH} {v : TV} (h : buildSliceT P H t len ps = some (v, H')) : ∃ Bs, H' = H ++ Bs := by
  unfold buildSliceT at h
  repeat' split at h
  all_goals first
    | cases h; done
    | (simp only [Option.some.injEq, Prod.mk.injEq] at h; exact ⟨_, h.2.symm⟩)

theorem buildY_grows {y : Option Nat} {t : TypeId} {len : Nat} {ps : List (Nat × AV)} {H H' : AH} {v : TV} (h : buildY P y H t len ps = some (v, H')) : ∃ Bs, H' = H ++ Bs := by
  unfold buildY at h
  split at h
  · unfold buildRowsT at h
    repeat' split at h
    all_goals first
      | cases h; done
      | (simp only [Option.some.injEq, Prod.mk.injEq] at h; exact ⟨_, h.2.symm⟩)
  · exact buildSliceT_grows h

theorem semOp_alloc {tm : List TV} {H H' : AH} {o : Oper} {v : TV} (h : semOp P Γ sy ops tm H o = some (v, H')) (ha : isAlloc o.op = true) : ∃ Bs, H' = H ++ Bs := by
  have key : (step P Γ (sy (o.dst.getD 0)) (evalT tm) H o.op).val = some (v, H') → ∃ Bs, H' = H ++ Bs := by
    intro h
    cases hop : o.op <;> rw [hop] at ha <;> simp only [isAlloc] at ha <;> first | cases ha | skip
    · rw [hop] at h
      simp only [step, cls, stepE] at h
      split at h
      · rename_i l _
        have := val_ok h
        simp only [allocA, Prod.mk.injEq] at this
        exact ⟨_, this.2.symm⟩
      · simp [Tr.val] at h
    · rename_i t0 len0 parts0
      rw [hop] at h
      cases len0 with
      | zero =>
        simp only [step, cls, Tr.val_bind] at h
        cases hs : (stepN P Γ (sy (o.dst.getD 0)) (evalT tm) (.buildSlice t0 0 parts0)).val with
        | none => rw [hs] at h; simp at h
        | some u =>
          rw [hs] at h
          simp only [Option.bind_some] at h
          have := val_ok h
          simp only [Prod.mk.injEq] at this
          exact ⟨[], by rw [← this.2]; simp⟩
      | succ len0 =>
        simp only [step, cls, stepE] at h
        split at h
        · rename_i ps _
          cases hb : buildY P (sy (o.dst.getD 0)) H t0 (len0 + 1) ps with
          | none => rw [hb] at h; simp [opt, Tr.val] at h
          | some r =>
            rw [hb] at h
            have := val_ok h
            subst this
            exact buildY_grows hb
        · simp [Tr.val] at h
  unfold semOp at h
  split at h
  · exact key h
  · split at h
    · split at h
      · exact key h
      · simp only [Option.some.injEq, Prod.mk.injEq] at h; exact ⟨[], by simp [h.2]⟩
    · simp only [Option.some.injEq, Prod.mk.injEq] at h; exact ⟨[], by simp [h.2]⟩
    · cases h

theorem semOp_congr {tm tm' : List TV} {H H0 H1 : AH} {o : Oper} {v : TV} (h : semOp P Γ sy ops tm H0 o = some (v, H1)) (ht : ∀ t ∈ looks ops o, tm[t]? = tm'[t]?) (hM : ∀ f, MonoS (Γ f)) (hHE : cls P Γ o.op = .E → H = H0) (hHR : cls P Γ o.op = .R → ∃ Bs, H = H0 ++ Bs) :
    ∃ H', semOp P Γ sy ops tm' H o = some (v, H') ∧ (cls P Γ o.op = .E → H' = H1) ∧ (cls P Γ o.op ≠ .E → H' = H) := by
  have hρ : ∀ x ∈ o.op.operands.toList, evalT tm x = evalT tm' x := by
    intro x hx
    cases x with
    | tmp t =>
      have : t ∈ looks ops o := by
        unfold looks
        refine List.mem_append_left _ (List.mem_filterMap.2 ⟨.tmp t, hx, rfl⟩)
      simp only [evalT, List.getD_eq_getElem?_getD, ht t this]
    | const v => rfl
    | global g => rfl
    | func f => rfl
  have keep : ∀ {H' : AH}, semOp P Γ sy ops tm' H o = some (v, H') → cls P Γ o.op ≠ .E → H' = H := fun h hc => semOp_keeps h hc
  have key : (step P Γ (sy (o.dst.getD 0)) (evalT tm) H0 o.op).val = some (v, H1) → ∃ H', (step P Γ (sy (o.dst.getD 0)) (evalT tm') H o.op).val = some (v, H') ∧ (cls P Γ o.op = .E → H' = H1) := by
    intro h
    rw [step_congr hρ] at h
    by_cases hc : cls P Γ o.op = .N
    · refine ⟨H, ?_, fun e => by rw [hc] at e; cases e⟩
      unfold step at h ⊢
      simp only [hc] at h ⊢
      rw [Tr.val_bind] at h ⊢
      cases hs : (stepN P Γ (sy (o.dst.getD 0)) (evalT tm') o.op).val with
      | none => simp [hs] at h
      | some u =>
        simp only [hs, Option.bind_some] at h ⊢
        have := val_ok h
        simp only [Prod.mk.injEq] at this
        rw [this.1]; rfl
    · by_cases hcE : cls P Γ o.op = .E
      · rw [hHE hcE]
        exact ⟨H1, h, fun _ => rfl⟩
      · have hcR : cls P Γ o.op = .R := by cases hx : cls P Γ o.op <;> simp_all
        obtain ⟨Bs, rfl⟩ := hHR hcR
        refine ⟨H0 ++ Bs, ?_, fun e => (hcE e).elim⟩
        unfold step at h ⊢
        simp only [hcR] at h ⊢
        rw [Tr.val_bind] at h ⊢
        cases hs : (stepR P Γ (sy (o.dst.getD 0)) (evalT tm') H0 o.op).val with
        | none => simp [hs] at h
        | some u =>
          simp only [hs, Option.bind_some] at h
          have := val_ok h
          simp only [Prod.mk.injEq] at this
          rw [stepR_monos hM hs, ← this.1]
          rfl
  have gd : ∀ j want, o.guard = some (j, want) → guardT ops tm j = guardT ops tm' j := by
    intro j want hg
    unfold guardT
    cases hoj : ops[j]? with
    | none => rfl
    | some oj =>
      cases hd : oj.dst with
      | none => simp only [hd]
      | some d =>
        have : d ∈ looks ops o := by
          unfold looks
          refine List.mem_append_right _ ?_
          simp [hg, hoj, hd]
        simp only [hd, ht d this]
  suffices hs : ∃ H', semOp P Γ sy ops tm' H o = some (v, H') ∧ (cls P Γ o.op = .E → H' = H1) by
    obtain ⟨H', h1, h2⟩ := hs
    exact ⟨H', h1, h2, keep h1⟩
  unfold semOp at h ⊢
  split at h
  · rename_i hg
    exact key h
  · rename_i j want hg
    rw [← gd j want hg]
    split at h
    · split at h
      · rename_i hc
        simp only [hc, if_true]
        exact key h
      · rename_i hc
        simp only [hc, if_false]
        simp only [Option.some.injEq, Prod.mk.injEq] at h
        refine ⟨H, by rw [h.1], fun e => ?_⟩
        rw [← h.2]
        exact hHE e
    · simp only [Option.some.injEq, Prod.mk.injEq] at h
      refine ⟨H, by rw [h.1], fun e => ?_⟩
      rw [← h.2]
      exact hHE e
    · cases h

end
end Go.AM
end
