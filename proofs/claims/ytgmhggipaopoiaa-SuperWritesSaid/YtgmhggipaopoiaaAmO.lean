/-
  The abstract machine, part 6b: strings as bytes; rows that are appended, copied, cleared.
-/
import Derived.Test.YtgmhggipaopoiaaAm5ToAm6
import Derived.Laws.IdiomStrings
namespace Go.AM

section
variable {P : Program} {φ : Phi} {H : AH}

theorem grownCap_ge (w : World) (need old : Nat) (e : TypeId) : need ≤ grownCap w need old e := by
  simp [grownCap, Question.cut]

theorem run_strBytesT {s d : TypeId} {x tv : TV} {H' : AH} {v : Value} {w : World} (h : strBytesT P H s d x = some (tv, H')) (hrep : Rep φ H w.heap) (hx : relT φ x v) :
    ∃ u w' φ', (convert s d v).run P w = .ok u w' ∧ relT φ' tv u ∧ Rep φ' H' w'.heap ∧ Ext φ H w φ' H' w' := by
  unfold strBytesT at h
  split at h
  · rename_i e hs hd
    split at h
    · rename_i he
      split at h
      · rename_i l
        simp only [Option.some.injEq, Prod.mk.injEq] at h
        obtain ⟨rfl, rfl⟩ := h
        obtain ⟨s', rfl, hl⟩ := hx
        have hrun := run_bytes_of_string (P := P) w s d e s' hs hd he
        have hge := grownCap_ge w s'.size 0 e
        have hsz : s'.size = l.length := by rw [← hl, Array.length_toList]; rfl
        have hbs : (bytesRow s' (grownCap w s'.size 0 e)).size = grownCap w s'.size 0 e := by
          have : s'.data.size = s'.size := rfl
          simp only [bytesRow, Array.size_append, Array.size_map, Array.size_replicate, this]
          omega
        have hget : ∀ i, i < l.length → (bytesRow s' (grownCap w s'.size 0 e))[i]? = some (.int .u8 ((l.getD i 0).toNat : Int)) := by
          intro i hi
          have hi' : i < s'.data.size := by rw [show s'.data.size = s'.size from rfl, hsz]; exact hi
          have e1 : l.getD i 0 = s'.data[i] := by
            have : l[i]? = some s'.data[i] := by rw [← hl, Array.getElem?_toList, Array.getElem?_eq_getElem hi']
            rw [List.getD_eq_getElem?_getD, this]
            rfl
          rw [bytesRow, Array.getElem?_append_left (by simpa using hi'), Array.getElem?_map, Array.getElem?_eq_getElem hi', e1]
          rfl
        rw [hsz] at hrun hge hbs hget
        generalize grownCap w l.length 0 e = cap at hrun hge hbs hget
        generalize bytesRow s' cap = C at hrun hbs hget
        subst hbs
        have hlast : (φ ++ [⟨w.heap.size, 0, C.size, l.length, .nil⟩])[H.length]? = some (⟨w.heap.size, 0, C.size, l.length, .nil⟩ : Loc) := by rw [← hrep.len]; simp
        have hB : RepB (φ ++ [⟨w.heap.size, 0, C.size, l.length, .nil⟩]) ⟨w.heap.size, 0, C.size, l.length, .nil⟩ (w.heap.push (.cells C e (C.size, C.size + 1))) (.rows [.n .u8] l.length (fun i _ => ((l.getD i 0).toNat : Int)) false) := by
          refine ⟨rfl, by simpa using hge, .inr ⟨C, e, (C.size, C.size + 1), by simp, by simp, fun h => (by cases h), fun i c sk hi hc => ?_⟩⟩
          have hc0 : c = 0 := by
            have := (List.getElem?_eq_some_iff.1 hc).1
            simpa using this
          subst hc0
          simp only [List.getElem?_cons_zero, Option.some.injEq] at hc
          subst hc
          exact ⟨_, by simpa using hget i hi, rfl⟩
        obtain ⟨r1, r2⟩ := rep_push (o := .cells C e (C.size, C.size + 1)) hrep (by intro _ hf; exact hf.2.symm) hB
        refine ⟨_, _, _, hrun, ⟨_, hlast, rfl, .inr ⟨C.size, hge, by simp, rfl⟩⟩, r1, ⟨r2, rfl, rfl, rfl⟩⟩
      · cases h
    · cases h
  · cases h

/-! ### rows in a list of cells -/

def RowsIn (φ : Phi) (ks : List SK) (m : Nat) (g : Nat → Nat → Int) (cells : List Value) : Prop :=
  cells.length = m * ks.length ∧ ∀ (j c : Nat) (sk : SK), j < m → ks[c]? = some sk → ∃ u, cells[j * ks.length + c]? = some u ∧ relS φ (mkS sk (g j c)) u

theorem get_lt {α : Type} {l : List α} {i : Nat} {a : α} (h : l[i]? = some a) : i < l.length := (List.getElem?_eq_some_iff.1 h).1

theorem idx_lt {j c m k : Nat} (hj : j < m) (hc : c < k) : j * k + c < m * k := by
  have : (j + 1) * k ≤ m * k := Nat.mul_le_mul_right _ hj
  rw [Nat.add_mul] at this
  omega

theorem RowsIn.append {ks : List SK} {m n : Nat} {g g' : Nat → Nat → Int} {xs ys : List Value} (hx : RowsIn φ ks m g xs) (hy : RowsIn φ ks n g' ys) : RowsIn φ ks (m + n) (appG g m g') (xs ++ ys) := by
  refine ⟨by rw [List.length_append, hx.1, hy.1, Nat.add_mul], fun j c sk hj hc => ?_⟩
  have hcl := get_lt hc
  unfold appG
  by_cases h : j < m
  · obtain ⟨u, h1, h2⟩ := hx.2 j c sk h hc
    refine ⟨u, ?_, by rw [if_pos h]; exact h2⟩
    rw [List.getElem?_append_left (get_lt h1)]
    exact h1
  · obtain ⟨u, h1, h2⟩ := hy.2 (j - m) c sk (by omega) hc
    refine ⟨u, ?_, by rw [if_neg h]; exact h2⟩
    have e : j * ks.length + c = xs.length + ((j - m) * ks.length + c) := by
      rw [hx.1, Nat.sub_mul]
      have : m * ks.length ≤ j * ks.length := Nat.mul_le_mul_right _ (by omega)
      omega
    rw [e, List.getElem?_append_right (by omega)]
    simpa using h1

theorem RowsIn.one {ks : List SK} {m : Nat} {g : Nat → Nat → Int} {xs : List Value} (hx : RowsIn φ ks m g xs) : ∀ v ∈ xs, v.oneCell' = true := by
  intro v hv
  obtain ⟨k, hk⟩ := List.getElem?_of_mem hv
  have hl := get_lt hk
  rw [hx.1] at hl
  have hpos : 0 < ks.length := by
    rcases Nat.eq_zero_or_pos ks.length with h | h
    · rw [h] at hl; omega
    · exact h
  have hc : k % ks.length < ks.length := Nat.mod_lt _ hpos
  have hj : k / ks.length < m := by
    rw [Nat.div_lt_iff_lt_mul hpos]; exact hl
  obtain ⟨u, h1, h2⟩ := hx.2 (k / ks.length) (k % ks.length) ks[k % ks.length] hj (List.getElem?_eq_getElem hc)
  have e : k / ks.length * ks.length + k % ks.length = k := by rw [Nat.mul_comm]; exact Nat.div_add_mod k ks.length
  rw [e, hk] at h1
  cases h1
  exact relS.oneCell h2

theorem rowInts_spec : ∀ {ks : List SK} {as : List AS} {r : List Int}, rowInts ks as = some r → ∀ (c : Nat) (sk : SK), ks[c]? = some sk → as[c]? = some (mkS sk (r.getD c 0))
  | [], _, _, _, c, sk, hc => by simp at hc
  | k :: ks, [], r, h, _, _, _ => by simp [rowInts] at h
  | k :: ks, a :: as, r, h, c, sk, hc => by
    simp only [rowInts] at h
    cases ha : asInt k a with
    | none => simp [ha] at h
    | some x =>
      cases hr : rowInts ks as with
      | none => simp [ha, hr] at h
      | some r' =>
        simp only [ha, hr, Option.some.injEq] at h
        subst h
        cases c with
        | zero =>
          simp only [List.getElem?_cons_zero, Option.some.injEq] at hc
          subst hc
          simp [asInt_mk ha]
        | succ c =>
          have := rowInts_spec hr c sk (by simpa using hc)
          simpa using this

theorem rowsOf_spec {ks : List SK} : ∀ {m : Nat} {l : List AS} {rs : List (List Int)}, rowsOf ks l m = some rs → rs.length = m ∧ ∀ (j c : Nat) (sk : SK), j < m → ks[c]? = some sk → l[j * ks.length + c]? = some (mkS sk ((rs.getD j []).getD c 0))
  | 0, _, rs, h => by simp [rowsOf] at h; subst h; exact ⟨rfl, fun j _ _ hj => by omega⟩
  | m + 1, l, rs, h => by
    simp only [rowsOf] at h
    cases hr : rowInts ks l with
    | none => simp [hr] at h
    | some r =>
      cases hrs : rowsOf ks (l.drop ks.length) m with
      | none => simp [hr, hrs] at h
      | some rs' =>
        simp only [hr, hrs, Option.some.injEq] at h
        subst h
        obtain ⟨h1, h2⟩ := rowsOf_spec hrs
        refine ⟨by simp [h1], fun j c sk hj hc => ?_⟩
        cases j with
        | zero => simpa using rowInts_spec hr c sk hc
        | succ j =>
          have := h2 j c sk (by omega) hc
          rw [List.getElem?_drop] at this
          rw [show (j + 1) * ks.length + c = ks.length + (j * ks.length + c) by rw [Nat.add_mul]; omega]
          simpa using this

theorem rowsF_eq {rs : List (List Int)} {j c : Nat} (h : j < rs.length) : rowsF rs j c = (rs.getD j []).getD c 0 := by
  match rs, h with
  | [r], h =>
    have : j = 0 := by simpa using h
    subst this
    rfl
  | _ :: _ :: _, _ => rfl

theorem viewM_rel {x : TV} {v : Value} {id F wd i lo len : Nat} (h : viewM x = some (id, F, wd, i, lo, len)) (hx : relT φ x v) : relS φ (.mems id F wd i lo len) v := by
  unfold viewM at h
  split at h
  · cases h; exact mems_of_mem hx
  · cases h; exact hx
  · cases h

theorem mems_load {v : Value} {id F wd i lo len : Nat} {ks : List SK} {c0 : Nat} {ms : List SK} {n : Nat} {g h : Nat → Nat → Int} {ow : Ow} {own : Bool} {w : World} (hx : relS φ (.mems id F wd i lo len) v) (hrep : Rep φ H w.heap)
    (hb : blk H id = some (.nrows ks c0 ms n g h F ow own)) (hwd : wd = ms.length) (ho : isAll ow = true) :
    ∃ cells : List Value, cells.length = len * wd ∧ (∀ (j c : Nat) (sk : SK), j < len → ms[c]? = some sk → ∃ u, cells[j * wd + c]? = some u ∧ relS φ (mkS sk (h i ((lo + j) * wd + c))) u) ∧
      ((len = 0 ∧ ∃ a, v = .slice a 0 0) ∨ ∃ b o cap, len ≤ cap ∧ v = .slice (some ⟨b, o, none⟩) len cap ∧ ∀ j u, cells[j]? = some u → w.cell? ((⟨b, o, none⟩ : Addr).add j) = some u) := by
  subst hwd
  rcases hx with ⟨h0, a, rfl⟩ | ⟨L, LF, b, o, l0, cap0, cap, hL, hF, hin, hm, hll, hle, rfl⟩
  · subst h0
    exact ⟨[], by simp, fun j c sk hj => by omega, .inl ⟨rfl, a, rfl⟩⟩
  · rcases Nat.eq_zero_or_pos len with hz | hpos
    · subst hz
      exact ⟨[], by simp, fun j c sk hj => by omega, .inr ⟨b, _, cap, hle, rfl, fun j u h => by simp at h⟩⟩
    · obtain ⟨cs, ty, fr, hcs, _, hsz, hlc, _, _, hk⟩ := mem_at hrep hb rfl ho hL hF hin hm (j := lo) (by omega)
      have hle1 : (lo + len) * ms.length ≤ cap0 * ms.length := Nat.mul_le_mul_right _ (by omega)
      rw [Nat.add_mul] at hle1
      refine ⟨(cs.toList.drop (o + lo * ms.length)).take (len * ms.length), by simp; omega, fun j c sk hj hc => ?_, .inr ⟨b, _, cap, hle, rfl, fun j u h => ?_⟩⟩
      · obtain ⟨u, h4, h5⟩ := hk (lo + j) c sk (by omega) hc
        refine ⟨u, ?_, h5⟩
        have hcl := (List.getElem?_eq_some_iff.1 hc).1
        have hlt : j * ms.length + c < len * ms.length := by
          have : (j + 1) * ms.length ≤ len * ms.length := Nat.mul_le_mul_right _ hj
          rw [Nat.add_mul] at this
          omega
        rw [List.getElem?_take, if_pos hlt, List.getElem?_drop, ← h4, Array.getElem?_toList]
        congr 1
        rw [Nat.add_mul]
        omega
      · rw [List.getElem?_take] at h
        split at h
        · rw [List.getElem?_drop, Array.getElem?_toList] at h
          simp only [add_zero_off, World.cell?, hcs]
          simpa using h
        · cases h

theorem srcT_rows {ks : List SK} {x : TV} {v : Value} {sid : Option Nat} {m : Nat} {src : Nat → Nat → Int} {w : World} (h : srcT ks H x = some (sid, m, src)) (hrep : Rep φ H w.heap) (hx : relT φ x v) :
    ∃ news : List Value, RowsIn φ ks m src news ∧ ∃ xb xc, v = .slice xb m xc ∧ ∀ w' : World, w'.heap = w.heap → (Builtin.firstCells ks.length m v).run P w' = .ok news.toArray w' := by
  unfold srcT at h
  split at h
  · rename_i id wd o m'
    split at h
    · rename_i l hb
      split at h
      · rename_i hwd
        split at h
        · rename_i rs hrs
          simp only [Option.some.injEq, Prod.mk.injEq] at h
          obtain ⟨_, rfl, rfl⟩ := h
          obtain ⟨hlen, hspec⟩ := rowsOf_spec hrs
          rcases hx with ⟨h0, a, rfl⟩ | ⟨L, cap, hL, hle, rfl⟩
          · subst h0
            refine ⟨[], ⟨by simp, fun j c sk hj => by omega⟩, a, 0, rfl, fun w' _ => ?_⟩
            cases a with
            | none => simp [Builtin.firstCells]
            | some a => simp [Builtin.firstCells, loadCells, loadCellsFrom]
          · obtain ⟨L', hL', hbase, hsz, hreal⟩ := rep_blkC hrep hb
            rw [hL] at hL'; cases hL'
            rcases Nat.eq_zero_or_pos (m' * ks.length) with hz | hpos
            · refine ⟨[], ⟨by simp [hz], fun j c sk hj hc => ?_⟩, _, cap, rfl, fun w' _ => ?_⟩
              · have := get_lt hc
                rcases Nat.mul_eq_zero.1 hz with h | h <;> omega
              · simp [Builtin.firstCells, hz, loadCells, loadCellsFrom]
            · have hlast : o + m' * ks.length ≤ l.length := by
                have hm : 0 < m' := by
                  rcases Nat.eq_zero_or_pos m' with h | h
                  · subst h; omega
                  · exact h
                have hk : 0 < ks.length := by
                  rcases Nat.eq_zero_or_pos ks.length with h | h
                  · rw [h] at hpos; omega
                  · exact h
                have := hspec (m' - 1) (ks.length - 1) ks[ks.length - 1] (by omega) (List.getElem?_eq_getElem (by omega))
                have := get_lt this
                rw [List.length_drop] at this
                have e : (m' - 1) * ks.length + ks.length = m' * ks.length := by
                  rw [← Nat.succ_mul]
                  congr 1
                  omega
                omega
              rcases hreal with hz | ⟨cs, ty, hcs, hrel⟩
              · omega
              have hll := hrel.length_eq
              refine ⟨((cs.toList.drop o).take (m' * ks.length)), ⟨?_, fun j c sk hj hc => ?_⟩, _, cap, rfl, fun w' hw' => ?_⟩
              · simp at hll ⊢; omega
              · have h1 := hspec j c sk hj hc
                rw [List.getElem?_drop] at h1
                obtain ⟨u, h2, h3⟩ := hrel.get h1
                refine ⟨u, ?_, by rw [rowsF_eq (by omega)]; exact h3⟩
                rw [List.getElem?_take, if_pos (idx_lt hj (get_lt hc)), List.getElem?_drop]
                exact h2
              · have hlen' : ((cs.toList.drop o).take (m' * ks.length)).length = m' * ks.length := by simp at hll ⊢; omega
                refine run_firstCells_some w' ks.length m' ⟨L.b, L.base + o, none⟩ m' cap _ hlen' fun j u hj => ?_
                rw [List.getElem?_take] at hj
                split at hj
                · rw [List.getElem?_drop, Array.getElem?_toList] at hj
                  simp only [add_zero_off, World.cell?, hw', hcs]
                  simpa [hbase] using hj
                · cases hj
        · cases h
      · cases h
    · cases h
  · split at h
    · rename_i id wd i m' hv
      split at h
      · rename_i ks' n g own hb
        split at h
        · rename_i hwd
          obtain ⟨hwd, rfl⟩ := hwd
          simp only [Option.some.injEq, Prod.mk.injEq] at h
          obtain ⟨_, rfl, rfl⟩ := h
          obtain ⟨cells, h1, h2, h3⟩ := view_load hv hx hrep hb hwd
          subst hwd
          refine ⟨cells, ⟨h1, h2⟩, ?_⟩
          rcases h3 with ⟨h0, a, rfl⟩ | ⟨L, cap, hL, hle, rfl, hcell⟩
          · subst h0
            refine ⟨a, 0, rfl, fun w' _ => ?_⟩
            have : cells = [] := List.length_eq_zero_iff.1 (by simpa using h1)
            subst this
            cases a with
            | none => simp [Builtin.firstCells]
            | some a => simp [Builtin.firstCells, loadCells, loadCellsFrom]
          · refine ⟨_, cap, rfl, fun w' hw' => run_firstCells_some w' _ m' _ m' cap cells h1 fun j u hj => ?_⟩
            rw [← hcell j u hj]
            simp [World.cell?, hw']
        · cases h
      · cases h
    · split at h
      · rename_i id F wd i lo m' hv
        split at h
        · rename_i ks1 c0 ms n g hh F' ow own hb
          split at h
          · rename_i hk
            obtain ⟨rfl, rfl, rfl, ho⟩ := hk
            simp only [Option.some.injEq, Prod.mk.injEq] at h
            obtain ⟨_, rfl, rfl⟩ := h
            obtain ⟨cells, h1, h2, h3⟩ := mems_load (viewM_rel hv hx) hrep hb rfl ho
            refine ⟨cells, ⟨h1, h2⟩, ?_⟩
            rcases h3 with ⟨h0, a, rfl⟩ | ⟨b, o, cap, hle, rfl, hcell⟩
            · subst h0
              refine ⟨a, 0, rfl, fun w' _ => ?_⟩
              have : cells = [] := List.length_eq_zero_iff.1 (by simpa using h1)
              subst this
              cases a with
              | none => simp [Builtin.firstCells]
              | some a => simp [Builtin.firstCells, loadCells, loadCellsFrom]
            · refine ⟨_, cap, rfl, fun w' hw' => run_firstCells_some w' _ m' _ m' cap cells h1 fun j u hj => ?_⟩
              rw [← hcell j u hj]
              simp [World.cell?, hw']
          · cases h
        · cases h
      · cases h

/-! ### append -/

theorem run_append_grownB {sT xT ty e e' : TypeId} {i : TypeInfo} {z : Value} (hs : P.underlying sT = some (.slice e)) (hx : P.underlying xT = some (.slice e')) (hi : P.info? e = some i) (hz : i.zero = some z) (w : World)
    {base xb : Option Addr} {sLen sCap n xc : Nat} {olds news : List Value} (ho : ∀ w' : World, w'.heap = w.heap → (Builtin.firstCells i.size sLen (.slice base sLen sCap)).run P w' = .ok olds.toArray w')
    (hn : ∀ w' : World, w'.heap = w.heap → (Builtin.firstCells i.size n (.slice xb n xc)).run P w' = .ok news.toArray w') (hg : sCap < sLen + n) (hbig : sLen + n ≤ 2199023255552) (hb : (sLen + n) * i.bytes ≤ 140737488355328) :
    (Builtin.append_ #[sT, xT] ty #[.slice base sLen sCap, .slice xb n xc]).run P w =
      .ok (.slice (some ⟨w.heap.size, 0, none⟩) (sLen + n) (grownCap w (sLen + n) sCap e))
        (w.drew.alloc (.cells (olds.toArray ++ news.toArray ++ Builtin.zeroCells z.cells (grownCap w (sLen + n) sCap e - (sLen + n))) e)) := by
  have hng : ¬ (sLen + n ≤ sCap) := by omega
  have h63 : ¬ (9223372036854775807 < ((sLen : Int) + (n : Int))) := by omega
  have hfit : Builtin.nextslicecap (sLen + n) sCap * i.bytes ≤ 281474976710656 := by
    refine growslice_fits hg ?_
    omega
  have h48 : ¬ (281474976710656 < Builtin.nextslicecap (sLen + n) sCap * i.bytes) := by omega
  have hfo := ho w.drew rfl
  have hfn := hn w.drew rfl
  simp [Builtin.append_, run_underlying hs, run_underlying hx, sizeOf, typeInfo, zeroValue, hi, hz, Builtin.lenOf, hng, h63, h48, Question.forced, hfo, hfn, newRow, grownCap]
  congr 2
  apply Array.ext'
  simp [List.append_assoc]

theorem run_append_grown {sT xT ty e e' : TypeId} {i : TypeInfo} {z : Value} (hs : P.underlying sT = some (.slice e)) (hx : P.underlying xT = some (.slice e')) (hi : P.info? e = some i) (hz : i.zero = some z) (w : World)
    {base xb : Option Addr} {sLen sCap n xc : Nat} {olds news : List Value} (ho : ∀ w' : World, w'.heap = w.heap → (Builtin.firstCells i.size sLen (.slice base sLen sCap)).run P w' = .ok olds.toArray w')
    (hn : ∀ w' : World, w'.heap = w.heap → (Builtin.firstCells i.size n (.slice xb n xc)).run P w' = .ok news.toArray w') (hg : sCap < sLen + n) (hbig : sLen + n ≤ 1073741824) (hb : i.bytes ≤ 1024) :
    (Builtin.append_ #[sT, xT] ty #[.slice base sLen sCap, .slice xb n xc]).run P w =
      .ok (.slice (some ⟨w.heap.size, 0, none⟩) (sLen + n) (grownCap w (sLen + n) sCap e))
        (w.drew.alloc (.cells (olds.toArray ++ news.toArray ++ Builtin.zeroCells z.cells (grownCap w (sLen + n) sCap e - (sLen + n))) e)) :=
  run_append_grownB hs hx hi hz w ho hn hg (by omega) (by
    have : (sLen + n) * i.bytes ≤ 1073741824 * 1024 := Nat.mul_le_mul hbig hb
    omega)

theorem run_append_room {sT xT ty e e' : TypeId} {i : TypeInfo} (hs : P.underlying sT = some (.slice e)) (hx : P.underlying xT = some (.slice e')) (hi : P.info? e = some i) (w : World)
    {base xb : Option Addr} {sLen sCap n xc : Nat} {news : List Value} (hn : (Builtin.firstCells i.size n (.slice xb n xc)).run P w = .ok news.toArray w) (hg : sLen + n ≤ sCap) {w' : World}
    (hst : match base with | some a => (storeCells (a.add (sLen * i.size)) news).run P w = .ok () w' | none => w' = w) :
    (Builtin.append_ #[sT, xT] ty #[.slice base sLen sCap, .slice xb n xc]).run P w = .ok (.slice base (sLen + n) sCap) w' := by
  cases base with
  | none =>
    simp only at hst
    subst hst
    simp [Builtin.append_, run_underlying hs, run_underlying hx, sizeOf, typeInfo, hi, Builtin.lenOf, hg, hn]
  | some a =>
    simp only at hst
    simp [Builtin.append_, run_underlying hs, run_underlying hx, sizeOf, typeInfo, hi, Builtin.lenOf, hg, hn, hst]

theorem repB_rows {L : Loc} {heap : Array Obj} {ks : List SK} {m : Nat} {g : Nat → Nat → Int} {xs : List Value} {cs : Array Value} {t : TypeId} (h : RowsIn φ ks m g xs) (hb : L.base = 0) (hn : L.n = m) (hsz : m * ks.length ≤ L.sz) (hc : heap[L.b]? = some (.cells cs t (0, 0)))
    (hsize : L.sz ≤ cs.size) (hpre : ∀ (k : Nat) (u : Value), xs[k]? = some u → cs[k]? = some u) : RepB φ L heap (.rows ks m g true) := by
  refine ⟨hn, hsz, .inr ⟨cs, t, (0, 0), hc, by omega, fun _ => ⟨hb, rfl⟩, fun i c sk hi hk => ?_⟩⟩
  obtain ⟨u, h1, h2⟩ := h.2 i c sk hi hk
  exact ⟨u, by rw [hb, Nat.zero_add]; exact hpre _ _ h1, h2⟩

theorem zeroCells_size (z : Array Value) (n : Nat) : (Builtin.zeroCells z n).size = n * z.size := by simp [Builtin.zeroCells]

theorem rep_grown {ks : List SK} {m : Nat} {g : Nat → Nat → Int} {xs : List Value} {w : World} {H0 : AH} (hrep : Rep φ H w.heap) (hE : ExtH φ H0 w.heap φ H w.heap) (h : RowsIn φ ks m g xs) (e : TypeId) {cap : Nat} (rest : Array Value) (hcap : m ≤ cap) (hr : rest.size = (cap - m) * ks.length) :
    Rep (φ ++ [⟨w.heap.size, 0, cap * ks.length, m, .nil⟩]) (H ++ [some (.rows ks m g true)]) (w.drew.alloc (.cells (xs.toArray ++ rest) e)).heap ∧
      Ext φ H0 w (φ ++ [⟨w.heap.size, 0, cap * ks.length, m, .nil⟩]) (H ++ [some (.rows ks m g true)]) (w.drew.alloc (.cells (xs.toArray ++ rest) e)) ∧
      relS (φ ++ [⟨w.heap.size, 0, cap * ks.length, m, .nil⟩]) (.slr H.length ks.length 0 m m) (.slice (some ⟨w.heap.size, 0, none⟩) m cap) := by
  have hlast : (φ ++ [⟨w.heap.size, 0, cap * ks.length, m, .nil⟩])[H.length]? = some (⟨w.heap.size, 0, cap * ks.length, m, .nil⟩ : Loc) := by rw [← hrep.len]; simp
  have hle : m * ks.length ≤ cap * ks.length := Nat.mul_le_mul_right _ hcap
  have hsz : (xs.toArray ++ rest).size = cap * ks.length := by
    rw [Array.size_append, hr, List.size_toArray, h.1, Nat.sub_mul]
    omega
  have hmono : RowsIn (φ ++ [⟨w.heap.size, 0, cap * ks.length, m, .nil⟩]) ks m g xs := ⟨h.1, fun j c sk hj hc => by
    obtain ⟨u, h1, h2⟩ := h.2 j c sk hj hc
    exact ⟨u, h1, relS.mono _ h2⟩⟩
  obtain ⟨r1, r2⟩ := rep_push (o := .cells (xs.toArray ++ rest) e) (L := ⟨w.heap.size, 0, cap * ks.length, m, .nil⟩) (B := .rows ks m g true) hrep (fun _ hf => hf.2.symm)
    (repB_rows hmono rfl rfl hle (cs := xs.toArray ++ rest) (t := e) (by simp) (by rw [hsz]; exact Nat.le_refl _) fun k u hk => by
      rw [Array.getElem?_append_left (by simpa using get_lt hk)]
      simpa using hk)
  refine ⟨r1, ⟨hE.trans r2, rfl, rfl, rfl⟩, .inr ⟨_, cap, hlast, Nat.le_refl _, hcap, by simp, by simp, by simp⟩⟩

theorem kindsL_len : ∀ {as : List AS} {ks : List SK}, kindsL as = some ks → ks.length = as.length
  | [], ks, h => by simp [kindsL] at h; subst h; rfl
  | a :: as, ks, h => by
    simp only [kindsL] at h
    split at h
    · split at h
      · rename_i r hr
        cases h
        simp [kindsL_len hr]
      · cases h
    · cases h

theorem kindsT_info {e : TypeId} {ks : List SK} (h : kindsT P e = some ks) : ∃ i z, P.info? e = some i ∧ i.zero = some z ∧ z.cells.size = ks.length := by
  unfold kindsT at h
  cases hz : zeroT P e with
  | none => simp [hz] at h
  | some l =>
    simp only [hz, Option.bind_some] at h
    obtain ⟨i, z, h1, h2, h3⟩ := zeroT_rel (φ := []) hz
    refine ⟨i, z, h1, h2, ?_⟩
    have := h3.length_eq
    rw [kindsL_len h, this]
    simp

theorem rep_zero {ks : List SK} {g : Nat → Nat → Int} {heap : Array Obj} (h : Rep φ H heap) : Rep (φ ++ [⟨0, 0, 0, 0, .nil⟩]) (H ++ [some (.rows ks 0 g true)]) heap ∧ ExtH φ H heap (φ ++ [⟨0, 0, 0, 0, .nil⟩]) (H ++ [some (.rows ks 0 g true)]) heap :=
  rep_more h (Nat.le_refl _) (fun _ _ => rfl) (fun _ hf => by simp [Blk.foot] at hf) ⟨rfl, by simp, .inl rfl⟩

theorem rep_over' {heap heap' : Array Obj} {id : Nat} {B B' : Blk} {L L' : Loc} (h : Rep φ H heap) (hid : H[id]? = some (some B)) (hL : φ[id]? = some L) (hm : B.mut = true) (hf : ∀ b, B'.foot (φ ++ [L']) L' b → B.foot φ L b)
    (hsz : heap.size ≤ heap'.size) (ho : ∀ b, ¬ B.foot φ L b → b < heap.size → heap'[b]? = heap[b]?) (hB : RepB (φ ++ [L']) L' heap' B') :
    Rep (φ ++ [L']) (H.set id none ++ [some B']) heap' ∧ ExtH φ H heap (φ ++ [L']) (H.set id none ++ [some B']) heap' := by
  have hlen : (H.set id none).length = H.length := by simp
  have hlast : (φ ++ [L'])[H.length]? = some L' := by rw [← h.len]; simp
  have old : ∀ {j : Nat} {C : Blk}, (H.set id none ++ [some B'])[j]? = some (some C) → (j < H.length ∧ j ≠ id ∧ H[j]? = some (some C)) ∨ (j = H.length ∧ C = B') := by
    intro j C hj
    rcases get_push hj with ⟨hlt, hj'⟩ | ⟨rfl, rfl⟩
    · rcases get_set hj' with ⟨_, hC⟩ | ⟨hne, hj''⟩
      · cases hC
      · exact .inl ⟨by simpa using hlt, hne, hj''⟩
    · exact .inr ⟨hlen, rfl⟩
  refine rep_step (ψ := [L']) (fun b => B.foot φ L b) (fun j => j = H.length) h (by simp [h.len]) hsz (fun b hb hn => ho b hn hb) (fun b _ hw => ⟨id, B, L, hid, hm, hL, hw⟩) ?_ ?_ ?_
  · intro j C hj hne
    rcases old hj with ⟨_, hn, hj'⟩ | ⟨e, _⟩
    · exact ⟨hj', fun L1 b h1 z hw => h.apart id j B C L L1 b hid hj' hL h1 (Ne.symm hn) hm hw z⟩
    · exact (hne e).elim
  · intro j C hj hN
    subst hN
    rcases old hj with ⟨hlt, _, _⟩ | ⟨_, rfl⟩
    · omega
    · exact ⟨L', hlast, hB, fun b z => .inl (hf b z)⟩
  · intro j j' C C' L1 L2 b h1 h2 _ _ _ _ hne
    exact (hne (h1.trans h2.symm)).elim

theorem rep_over {heap : Array Obj} {id : Nat} {B B' : Blk} {L L' : Loc} (h : Rep φ H heap) (hid : H[id]? = some (some B)) (hL : φ[id]? = some L) (hm : B.mut = true) (hf : ∀ b, B'.foot (φ ++ [L']) L' b → B.foot φ L b) (hB : RepB (φ ++ [L']) L' heap B') :
    Rep (φ ++ [L']) (H.set id none ++ [some B']) heap ∧ ExtH φ H heap (φ ++ [L']) (H.set id none ++ [some B']) heap :=
  rep_over' h hid hL hm hf (Nat.le_refl _) (fun _ _ _ => rfl) hB

theorem append_grownB {ks : List SK} {sT xT ty e e' : TypeId} {i : TypeInfo} {z : Value} {w : World} {H1 : AH} {base xb : Option Addr} {sLen sCap n xc : Nat} {g src : Nat → Nat → Int} {olds news : List Value}
    (hs : P.underlying sT = some (.slice e)) (hx : P.underlying xT = some (.slice e')) (hi : P.info? e = some i) (hz : i.zero = some z) (hzs : z.cells.size = ks.length) (hsz : i.size = ks.length)
    (hrep : Rep φ H1 w.heap) (hE : ExtH φ H w.heap φ H1 w.heap) (hlen : H1.length = H.length) (ro : RowsIn φ ks sLen g olds) (rn : RowsIn φ ks n src news)
    (ho : ∀ w' : World, w'.heap = w.heap → (Builtin.firstCells ks.length sLen (.slice base sLen sCap)).run P w' = .ok olds.toArray w')
    (hn : ∀ w' : World, w'.heap = w.heap → (Builtin.firstCells ks.length n (.slice xb n xc)).run P w' = .ok news.toArray w') (hg : sCap < sLen + n) (hbig : sLen + n ≤ 2199023255552) (hb : (sLen + n) * i.bytes ≤ 140737488355328) :
    ∃ u w' φ', (Builtin.append_ #[sT, xT] ty #[.slice base sLen sCap, .slice xb n xc]).run P w = .ok u w' ∧ relT φ' (.v (.s (.slr H.length ks.length 0 (sLen + n) (sLen + n)))) u ∧ Rep φ' (H1 ++ [some (.rows ks (sLen + n) (appG g sLen src) true)]) w'.heap ∧
      Ext φ H w φ' (H1 ++ [some (.rows ks (sLen + n) (appG g sLen src) true)]) w' := by
  have hrun := run_append_grownB (ty := ty) hs hx hi hz w (by rw [hsz]; exact ho) (by rw [hsz]; exact hn) hg hbig hb
  have hge := grownCap_ge w (sLen + n) sCap e
  obtain ⟨r1, r2, r3⟩ := rep_grown hrep hE (ro.append rn) e (cap := grownCap w (sLen + n) sCap e) (Builtin.zeroCells z.cells (grownCap w (sLen + n) sCap e - (sLen + n))) hge (by rw [zeroCells_size, hzs])
  have hcells : (olds ++ news).toArray = olds.toArray ++ news.toArray := by simp
  rw [hcells] at r1 r2
  rw [hlen] at r3
  exact ⟨_, _, _, hrun, r3, r1, r2⟩

theorem append_grown {ks : List SK} {sT xT ty e e' : TypeId} {i : TypeInfo} {z : Value} {w : World} {H1 : AH} {base xb : Option Addr} {sLen sCap n xc : Nat} {g src : Nat → Nat → Int} {olds news : List Value}
    (hs : P.underlying sT = some (.slice e)) (hx : P.underlying xT = some (.slice e')) (hi : P.info? e = some i) (hz : i.zero = some z) (hzs : z.cells.size = ks.length) (hsz : i.size = ks.length) (hb : i.bytes ≤ 1024)
    (hrep : Rep φ H1 w.heap) (hE : ExtH φ H w.heap φ H1 w.heap) (hlen : H1.length = H.length) (ro : RowsIn φ ks sLen g olds) (rn : RowsIn φ ks n src news)
    (ho : ∀ w' : World, w'.heap = w.heap → (Builtin.firstCells ks.length sLen (.slice base sLen sCap)).run P w' = .ok olds.toArray w')
    (hn : ∀ w' : World, w'.heap = w.heap → (Builtin.firstCells ks.length n (.slice xb n xc)).run P w' = .ok news.toArray w') (hg : sCap < sLen + n) (hbig : sLen + n ≤ 1073741824) :
    ∃ u w' φ', (Builtin.append_ #[sT, xT] ty #[.slice base sLen sCap, .slice xb n xc]).run P w = .ok u w' ∧ relT φ' (.v (.s (.slr H.length ks.length 0 (sLen + n) (sLen + n)))) u ∧ Rep φ' (H1 ++ [some (.rows ks (sLen + n) (appG g sLen src) true)]) w'.heap ∧
      Ext φ H w φ' (H1 ++ [some (.rows ks (sLen + n) (appG g sLen src) true)]) w' :=
  append_grownB hs hx hi hz hzs hsz hrep hE hlen ro rn ho hn hg (by omega) (by
    have : (sLen + n) * i.bytes ≤ 1073741824 * 1024 := Nat.mul_le_mul hbig hb
    omega)

theorem append_empty {ks : List SK} {sT xT ty e e' : TypeId} {i : TypeInfo} {w : World} {H1 : AH} {base xb : Option Addr} {xc sCap : Nat} {g : Nat → Nat → Int} {wd : Nat}
    (hs : P.underlying sT = some (.slice e)) (hx : P.underlying xT = some (.slice e')) (hi : P.info? e = some i)
    (hrep : Rep φ H1 w.heap) (hE : ExtH φ H w.heap φ H1 w.heap) (hlen : H1.length = H.length) (h0 : sCap = 0)
    (hn : (Builtin.firstCells i.size 0 (.slice xb 0 xc)).run P w = .ok #[] w) :
    ∃ u w' φ', (Builtin.append_ #[sT, xT] ty #[.slice base 0 sCap, .slice xb 0 xc]).run P w = .ok u w' ∧ relT φ' (.v (.s (.slr H.length wd 0 0 0))) u ∧ Rep φ' (H1 ++ [some (.rows ks 0 g true)]) w'.heap ∧
      Ext φ H w φ' (H1 ++ [some (.rows ks 0 g true)]) w' := by
  subst h0
  have hrun := run_append_room (P := P) (ty := ty) (sLen := 0) (sCap := 0) (n := 0) (news := []) (base := base) (w' := w) hs hx hi w hn (Nat.le_refl _) (by cases base <;> simp [storeCells])
  obtain ⟨r1, r2⟩ := rep_zero (ks := ks) (g := g) hrep
  exact ⟨_, _, _, hrun, .inl ⟨rfl, rfl, base, rfl⟩, r1, ⟨hE.trans r2, rfl, rfl, rfl⟩⟩

theorem run_appendT {y : Option Nat} {sT xT ty : TypeId} {a b tv : TV} {H' : AH} {va vb : Value} {w : World} (h : (appendT P y H sT xT a b).val = some (tv, H')) (hrep : Rep φ H w.heap) (ha : relT φ a va) (hb : relT φ b vb) :
    ∃ u w' φ', (Builtin.append_ #[sT, xT] ty #[va, vb]).run P w = .ok u w' ∧ relT φ' tv u ∧ Rep φ' H' w'.heap ∧ Ext φ H w φ' H' w' := by
  unfold appendT at h
  split at h
  · rename_i e e' hs hx
    split at h
    · rename_i ks wd hks hwd
      split at h
      · rename_i hc
        obtain ⟨hkl, hw0, hby⟩ := hc
        subst hkl
        obtain ⟨i, z, hi, hz, hzs⟩ := kindsT_info hks
        obtain ⟨i', hi', hsz, _⟩ := sizeT_some hwd
        rw [hi] at hi'; cases hi'
        have hbytes : i.bytes ≤ 1024 := by simpa [Program.bytesOf, hi] using hby
        split at h
        · rename_i sid m src hsrc
          obtain ⟨news, rn, xb, xc, rfl, hn⟩ := srcT_rows (P := P) hsrc hrep hb
          have hn0 : m = 0 → (Builtin.firstCells i.size 0 (.slice xb 0 xc)).run P w = .ok #[] w := by
            intro hm
            subst hm
            have := hn w rfl
            have e0 : news = [] := List.length_eq_zero_iff.1 (by simpa using rn.1)
            rw [e0] at this
            rw [hsz]
            exact this
          split at h
          · -- nil
            obtain ⟨hc, h⟩ := val_chk h
            simp only [Bool.and_eq_true, decide_eq_true_eq] at hc
            have h := val_ok h
            simp only [Prod.mk.injEq] at h
            obtain ⟨rfl, rfl⟩ := h
            obtain rfl : va = .slice none 0 0 := ha
            have := append_grown (P := P) (ty := ty) (H := H) (g := fun _ _ => 0) (olds := []) (base := none) (sLen := 0) (sCap := 0) hs hx hi hz hzs hsz hbytes hrep (ExtH.refl _ _ _) rfl ⟨by simp, fun j c sk hj => by omega⟩ rn (fun w' _ => by simp [Builtin.firstCells]) hn (by omega) (by omega)
            have e1 : appG (fun _ _ => 0) 0 src = src := by funext i c; simp [appG]
            rw [e1, Nat.zero_add] at this
            exact this
          · rename_i id wd' i0 len cp
            split at h
            · rename_i ks' n g hblk
              split at h
              · rename_i hk
                obtain ⟨rfl, rfl⟩ := hk
                split at h
                · simp [Tr.val] at h
                · rename_i hsid
                  obtain ⟨hc, h⟩ := val_chkB h
                  simp only [Bool.and_eq_true, decide_eq_true_eq, beq_iff_eq] at hc
                  obtain ⟨⟨hi0, hln⟩, hbig⟩ := hc
                  have hbe : P.bytesOf e = i.bytes := by simp [Program.bytesOf, hi]
                  have hbig2 := Nat.le_trans hbig (capB_big _)
                  have hfit2 := capB_fit hby hbig
                  rw [hbe] at hfit2
                  have h := val_ok h
                  simp only [Prod.mk.injEq] at h
                  obtain ⟨rfl, rfl⟩ := h
                  subst hi0; subst hln
                  obtain ⟨d1, d2⟩ := rep_drop id hrep
                  have hlen : (H.set id none).length = H.length := by simp
                  rcases ha with ⟨h0, h1, a0, rfl⟩ | ⟨L, cap, hL, hle, hcc, hnn, hszz, rfl⟩
                  · subst h0
                    rcases Nat.eq_zero_or_pos m with hm | hm
                    · subst hm
                      have := append_empty (P := P) (ty := ty) (ks := ks') (H := H) (g := appG g 0 src) (wd := ks'.length) (base := a0) hs hx hi d1 d2 hlen rfl (hn0 rfl)
                      simpa using this
                    · exact append_grownB (P := P) (ty := ty) (H := H) (g := g) (olds := []) (base := a0) (sLen := 0) (sCap := 0) hs hx hi hz hzs hsz d1 d2 hlen ⟨by simp, fun j c sk hj => by omega⟩ rn (fun w' _ => by cases a0 <;> simp [Builtin.firstCells, loadCells, loadCellsFrom]) hn (by omega) hbig2 hfit2
                  · obtain ⟨L', hL', hLn, hnsz, hreal⟩ := hrep.blk _ _ (blk_some hblk)
                    rw [hL] at hL'; cases hL'
                    have hcp : cp = len := by omega
                    subst hcp
                    obtain ⟨olds, o1, o2, o3⟩ := view_load (x := .v (.s (.slr id ks'.length 0 cp cp))) (H := H) (w := w) rfl (.inr ⟨L, cap, hL, Nat.le_refl _, hcc, hnn, hszz, rfl⟩) hrep hblk rfl
                    have ro : RowsIn φ ks' cp g olds := ⟨o1, by simpa using o2⟩
                    have ho : ∀ w' : World, w'.heap = w.heap → (Builtin.firstCells ks'.length cp (.slice (some ⟨L.b, L.base + 0 * ks'.length, none⟩) cp cap)).run P w' = .ok olds.toArray w' := by
                      intro w' hw'
                      rcases o3 with ⟨h0, a1, he⟩ | ⟨L1, cap1, hL1, _, he, hcell⟩
                      · have : olds = [] := List.length_eq_zero_iff.1 (by rw [o1, h0]; simp)
                        subst this
                        subst h0
                        simp [Builtin.firstCells, loadCells, loadCellsFrom]
                      · simp only [Value.slice.injEq, Option.some.injEq, Addr.mk.injEq] at he
                        rw [hL] at hL1; cases hL1
                        exact run_firstCells_some w' _ cp _ cp cap olds o1 fun j u hj => by rw [← hcell j u hj]; simp [World.cell?, hw']
                    rcases Nat.lt_or_ge cap (cp + m) with hroom | hroom
                    · exact append_grownB (P := P) (ty := ty) (H := H) (g := g) (olds := olds) hs hx hi hz hzs hsz d1 d2 hlen ro rn ho hn hroom hbig2 hfit2
                    · rcases Nat.eq_zero_or_pos L.sz with hz0 | hpos
                      · have hcap0 : cap = 0 := by
                          rw [hz0, Nat.zero_add] at hszz
                          rcases Nat.eq_zero_or_pos cap with h | h
                          · exact h
                          · have : 1 * 1 ≤ cap * ks'.length := Nat.mul_le_mul h (Nat.pos_of_ne_zero hw0)
                            omega
                        have hcp0 : cp = 0 := by omega
                        have hm0 : m = 0 := by omega
                        subst hcp0; subst hm0
                        have := append_empty (P := P) (ty := ty) (ks := ks') (H := H) (g := appG g 0 src) (wd := ks'.length) (base := some ⟨L.b, L.base + 0 * ks'.length, none⟩) (sCap := cap) hs hx hi d1 d2 hlen hcap0 (hn0 rfl)
                        rw [hcap0] at this ⊢
                        simpa using this
                      · rcases hreal with hz0 | ⟨cs, ct, fr, hcs, hcsz, hown, hrows⟩
                        · omega
                        obtain ⟨hb0, hfr⟩ := hown rfl
                        subst hfr
                        rw [Nat.zero_add] at hszz
                        have hfit : (cp + m) * ks'.length ≤ L.sz := Nat.le_trans (Nat.mul_le_mul_right _ hroom) hszz
                        have hb' : L.sz ≤ cs.size := by omega
                        have hmul : (cp + m) * ks'.length = cp * ks'.length + m * ks'.length := Nat.add_mul _ _ _
                        have ro' : RowsIn φ ks' cp g (cs.toList.take (cp * ks'.length)) := by
                          refine ⟨by simp; omega, fun j c sk hj hc => ?_⟩
                          obtain ⟨u, h1, h2⟩ := hrows j c sk hj hc
                          refine ⟨u, ?_, h2⟩
                          rw [List.getElem?_take, if_pos (idx_lt hj (get_lt hc)), Array.getElem?_toList]
                          rw [hb0, Nat.zero_add] at h1
                          exact h1
                        have hst : (storeCells ((⟨L.b, L.base + 0 * ks'.length, none⟩ : Addr).add (cp * i.size)) news).run P w = .ok () (w.setRow L.b (cs.toList.take (cp * ks'.length + 0) ++ news ++ cs.toList.drop (cp * ks'.length + 0 + news.length)).toArray) := by
                          have := run_storeCells_at P L.b (cp * ks'.length) ct news 0 cs w hcs (by rw [rn.1]; omega) rn.one
                          rw [add_zero_off, hsz, hb0, Nat.zero_mul, Nat.zero_add]
                          exact this
                        have hrun := run_append_room (P := P) (ty := ty) (sLen := cp) (sCap := cap) (n := m) (news := news) (base := some ⟨L.b, L.base + 0 * ks'.length, none⟩) hs hx hi w (by rw [hsz]; exact hn w rfl) hroom hst
                        rw [Nat.add_zero] at hrun
                        have hcsz' : ((cs.toList.take (cp * ks'.length) ++ news ++ cs.toList.drop (cp * ks'.length + news.length)).toArray).size = cs.size := by
                          simp [rn.1]
                          omega
                        have hpre : ∀ (k : Nat) (u : Value), (cs.toList.take (cp * ks'.length) ++ news)[k]? = some u → ((cs.toList.take (cp * ks'.length) ++ news ++ cs.toList.drop (cp * ks'.length + news.length)).toArray)[k]? = some u := by
                          intro k u hk
                          rw [List.getElem?_toArray, List.getElem?_append_left (get_lt hk)]
                          exact hk
                        generalize hC : (cs.toList.take (cp * ks'.length) ++ news ++ cs.toList.drop (cp * ks'.length + news.length)).toArray = C at hrun hcsz' hpre
                        have hnew := setRow_heap w L.b cs C ct (0, 0) hcs
                        have hsame : ∀ k, k ≠ L.b → (w.setRow L.b C).heap[k]? = w.heap[k]? := fun k hk => setRow_other w L.b k C hk
                        have hsize : (w.setRow L.b C).heap.size = w.heap.size := by simp [World.setRow]
                        obtain ⟨s1, s2⟩ := rep_set (B' := .rows ks' cp g true) hrep (blk_some hblk) hL rfl (fun _ h => h) (Nat.le_of_eq hsize.symm) (fun k hk _ => hsame k (fun e => hk ⟨hpos, e.symm⟩))
                          (repB_rows ro' hb0 hLn hnsz hnew (by omega) fun k u hk => hpre k u (by rw [List.getElem?_append_left (get_lt hk)]; exact hk))
                        have hidlt : id < H.length := get_lt (blk_some hblk)
                        have rall := ro'.append rn
                        obtain ⟨t1, t2⟩ := rep_over (L' := ⟨L.b, 0, L.sz, cp + m, .nil⟩) (B' := .rows ks' (cp + m) (appG g cp src) true) s1 (by rw [List.getElem?_set_self hidlt]) hL rfl (by intro b hf; exact ⟨hpos, hf.2⟩)
                          (repB_rows (⟨rall.1, fun j c sk hj hc => by obtain ⟨u, h1, h2⟩ := rall.2 j c sk hj hc; exact ⟨u, h1, relS.mono _ h2⟩⟩ : RowsIn (φ ++ [⟨L.b, 0, L.sz, cp + m, .nil⟩]) ks' (cp + m) (appG g cp src) _) rfl rfl hfit hnew (by simp only; omega) hpre)
                        rw [List.set_set] at t1 t2
                        have hlast : (φ ++ [⟨L.b, 0, L.sz, cp + m, .nil⟩])[H.length]? = some (⟨L.b, 0, L.sz, cp + m, .nil⟩ : Loc) := by rw [← hrep.len]; simp
                        refine ⟨_, _, _, hrun, .inr ⟨_, cap, hlast, Nat.le_refl _, hroom, by simp, by simpa using hszz, by simp [hb0]⟩, t1, ⟨s2.trans t2, rfl, rfl, rfl⟩⟩
              · simp [Tr.val] at h
            · simp [Tr.val] at h
          · rename_i id wd' i0 len
            split at h
            · rename_i ks' n g own hblk
              split at h
              · rename_i hk
                obtain ⟨rfl, rfl⟩ := hk
                obtain ⟨hc, h⟩ := val_chk h
                simp only [Bool.and_eq_true, Bool.or_eq_true, decide_eq_true_eq, beq_iff_eq] at hc
                obtain ⟨hne, hbig⟩ := hc
                have h := val_ok h
                simp only [Prod.mk.injEq] at h
                obtain ⟨rfl, rfl⟩ := h
                rcases ha with ⟨h0, a0, rfl⟩ | ⟨L, hL, hnn, hszz, rfl⟩
                · subst h0
                  rcases Nat.eq_zero_or_pos m with hm | hm
                  · subst hm
                    have := append_empty (P := P) (ty := ty) (ks := ks') (H := H) (g := appG (fun k c => g (i0 + k) c) 0 src) (wd := ks'.length) (base := a0) hs hx hi hrep (ExtH.refl _ _ _) rfl rfl (hn0 rfl)
                    simpa using this
                  · exact append_grown (P := P) (ty := ty) (H := H) (g := fun k c => g (i0 + k) c) (olds := []) (base := a0) (sLen := 0) (sCap := 0) hs hx hi hz hzs hsz hbytes hrep (ExtH.refl _ _ _) rfl ⟨by simp, fun j c sk hj => by omega⟩ rn (fun w' _ => by cases a0 <;> simp [Builtin.firstCells, loadCells, loadCellsFrom]) hn (by omega) hbig
                · obtain ⟨olds, o1, o2, o3⟩ := view_load (x := .v (.s (.slc id ks'.length i0 len))) (H := H) (w := w) rfl (.inr ⟨L, hL, hnn, hszz, rfl⟩) hrep hblk rfl
                  have ro : RowsIn φ ks' len (fun k c => g (i0 + k) c) olds := ⟨o1, o2⟩
                  have ho : ∀ w' : World, w'.heap = w.heap → (Builtin.firstCells ks'.length len (.slice (some ⟨L.b, L.base + i0 * ks'.length, none⟩) len len)).run P w' = .ok olds.toArray w' := by
                    intro w' hw'
                    rcases o3 with ⟨h0, a1, he⟩ | ⟨L1, cap1, hL1, _, he, hcell⟩
                    · simp only [Value.slice.injEq] at he
                      obtain ⟨rfl, rfl, _⟩ := he
                      have : olds = [] := List.length_eq_zero_iff.1 (by simpa using o1)
                      subst this
                      simp [Builtin.firstCells, loadCells, loadCellsFrom]
                    · rw [hL] at hL1; cases hL1
                      exact run_firstCells_some w' _ len _ len len olds o1 fun j u hj => by rw [← hcell j u hj]; simp [World.cell?, hw']
                  rcases Nat.eq_zero_or_pos m with hm | hm
                  · have hl0 : len = 0 := by omega
                    subst hm; subst hl0
                    have := append_empty (P := P) (ty := ty) (ks := ks') (H := H) (g := appG (fun k c => g (i0 + k) c) 0 src) (wd := ks'.length) (base := some ⟨L.b, L.base + i0 * ks'.length, none⟩) hs hx hi hrep (ExtH.refl _ _ _) rfl rfl (hn0 rfl)
                    simpa using this
                  · exact append_grown (P := P) (ty := ty) (H := H) (g := fun k c => g (i0 + k) c) (olds := olds) hs hx hi hz hzs hsz hbytes hrep (ExtH.refl _ _ _) rfl ro rn ho hn (by omega) hbig
              · simp [Tr.val] at h
            · simp [Tr.val] at h
          · simp [Tr.val] at h
        · simp [Tr.val] at h
      · simp [Tr.val] at h
    · simp [Tr.val] at h
  · simp [Tr.val] at h

/-! ### rows of a block laid over others of it -/

theorem run_inT {y : Option Nat} {sT xT ty : TypeId} {a b tv : TV} {r : Tr (TV × AH)} {H' : AH} {va vb : Value} {w : World} (hr : inT P y H sT xT a b = some r) (h : r.val = some (tv, H')) (hrep : Rep φ H w.heap) (ha : relT φ a va) (hb : relT φ b vb) :
    ∃ u w' φ', (Builtin.append_ #[sT, xT] ty #[va, vb]).run P w = .ok u w' ∧ relT φ' tv u ∧ Rep φ' H' w'.heap ∧ Ext φ H w φ' H' w' := by
  unfold inT at hr
  split at hr
  · rename_i id wd' i0 len cp
    split at hr
    · rename_i e e' hs hx
      split at hr
      · rename_i ks wd hks hwd
        split at hr
        · rename_i hc
          obtain ⟨hkl, hw0, rfl⟩ := hc
          subst hkl
          obtain ⟨i, z, hi, hz, hzs⟩ := kindsT_info hks
          obtain ⟨i', hi', hsz, _⟩ := sizeT_some hwd
          rw [hi] at hi'; cases hi'
          split at hr
          · rename_i sid m src hsrc
            obtain ⟨news, rn, xb, xc, rfl, hn⟩ := srcT_rows (P := P) hsrc hrep hb
            split at hr
            · split at hr
              · rename_i ks' n g hblk
                split at hr
                · rename_i hk
                  subst hk
                  obtain rfl := Option.some.inj hr
                  obtain ⟨hc, h2⟩ := val_chk h
                  have h3 := val_ok h2
                  simp only [Prod.mk.injEq] at h3
                  obtain ⟨rfl, rfl⟩ := h3
                  clear h h2
                  simp only [Bool.and_eq_true, decide_eq_true_eq, beq_iff_eq] at hc
                  obtain ⟨rfl, hfit0⟩ := hc
                  obtain ⟨L, hL, hLn, hnsz, hreal⟩ := hrep.blk _ _ (blk_some hblk)
                  have empty : ∀ (base : Option Addr) (sCap : Nat), sCap = 0 → len = 0 → m = 0 → cp = 0 → ∃ u w' φ', (Builtin.append_ #[sT, xT] ty #[.slice base len sCap, .slice xb m xc]).run P w = .ok u w' ∧ relT φ' (.v (.s (.slk H.length ks'.length (len + m) cp))) u ∧
                      Rep φ' (H.set id none ++ [some (.rows ks' (len + m) (appG g len src) true)]) w'.heap ∧ Ext φ H w φ' (H.set id none ++ [some (.rows ks' (len + m) (appG g len src) true)]) w' := by
                    intro base sCap h1 h2 h3 h4
                    subst h1; subst h2; subst h3; subst h4
                    have hn0 : (Builtin.firstCells i.size 0 (.slice xb 0 xc)).run P w = .ok #[] w := by
                      have := hn w rfl
                      have e0 : news = [] := List.length_eq_zero_iff.1 (by simpa using rn.1)
                      rw [e0] at this
                      rw [hsz]
                      exact this
                    have hrun := run_append_room (P := P) (ty := ty) (sLen := 0) (sCap := 0) (n := 0) (news := []) (base := base) (w' := w) hs hx hi w hn0 (Nat.le_refl _) (by cases base <;> simp [storeCells])
                    obtain ⟨d1, d2⟩ := rep_drop id hrep
                    obtain ⟨r1, r2⟩ := rep_zero (ks := ks') (g := appG g 0 src) d1
                    exact ⟨_, _, _, hrun, ⟨⟨0, 0, 0, 0, .nil⟩, by rw [← hrep.len]; simp, rfl, Nat.le_refl _, .inl ⟨rfl, base, rfl⟩⟩, r1, ⟨d2.trans r2, rfl, rfl, rfl⟩⟩
                  rcases ha with ⟨h0, h1, a0, rfl⟩ | ⟨L', cap, hL', hle, hcc, hnn, hszz, rfl⟩
                  · subst h0
                    exact empty a0 0 rfl rfl (by omega) h1
                  · rw [hL] at hL'; cases hL'
                    rw [Nat.zero_add] at hszz
                    rcases Nat.eq_zero_or_pos L.sz with hz0 | hpos
                    · have hcap0 : cap = 0 := by
                        rcases Nat.eq_zero_or_pos cap with h | h
                        · exact h
                        · have : 1 * 1 ≤ cap * ks'.length := Nat.mul_le_mul h (Nat.pos_of_ne_zero hw0)
                          omega
                      have hl0 : len = 0 := by omega
                      have := empty (some ⟨L.b, L.base + 0 * ks'.length, none⟩) cap hcap0 hl0 (by omega) (by omega)
                      exact this
                    · rcases hreal with hz0 | ⟨cs, ct, fr, hcs, hcsz, hown, hrows⟩
                      · omega
                      obtain ⟨hb0, hfr⟩ := hown rfl
                      subst hfr
                      have hfit : (len + m) * ks'.length ≤ L.sz := Nat.le_trans (Nat.mul_le_mul_right _ (by omega)) hszz
                      have hmul : (len + m) * ks'.length = len * ks'.length + m * ks'.length := Nat.add_mul _ _ _
                      have ro' : RowsIn φ ks' len g (cs.toList.take (len * ks'.length)) := by
                        refine ⟨by simp; omega, fun j c sk hj hc => ?_⟩
                        obtain ⟨u, h1, h2⟩ := hrows j c sk (by omega) hc
                        refine ⟨u, ?_, h2⟩
                        rw [List.getElem?_take, if_pos (idx_lt hj (get_lt hc)), Array.getElem?_toList]
                        rw [hb0, Nat.zero_add] at h1
                        exact h1
                      have hst : (storeCells ((⟨L.b, L.base + 0 * ks'.length, none⟩ : Addr).add (len * i.size)) news).run P w = .ok () (w.setRow L.b (cs.toList.take (len * ks'.length + 0) ++ news ++ cs.toList.drop (len * ks'.length + 0 + news.length)).toArray) := by
                        have := run_storeCells_at P L.b (len * ks'.length) ct news 0 cs w hcs (by rw [rn.1]; omega) rn.one
                        rw [add_zero_off, hsz, hb0, Nat.zero_mul, Nat.zero_add]
                        exact this
                      have hrun := run_append_room (P := P) (ty := ty) (sLen := len) (sCap := cap) (n := m) (news := news) (base := some ⟨L.b, L.base + 0 * ks'.length, none⟩) hs hx hi w (by rw [hsz]; exact hn w rfl) (by omega) hst
                      rw [Nat.add_zero] at hrun
                      have hcsz' : ((cs.toList.take (len * ks'.length) ++ news ++ cs.toList.drop (len * ks'.length + news.length)).toArray).size = cs.size := by
                        simp [rn.1]
                        omega
                      have hpre : ∀ (k : Nat) (u : Value), (cs.toList.take (len * ks'.length) ++ news)[k]? = some u → ((cs.toList.take (len * ks'.length) ++ news ++ cs.toList.drop (len * ks'.length + news.length)).toArray)[k]? = some u := by
                        intro k u hk
                        rw [List.getElem?_toArray, List.getElem?_append_left (get_lt hk)]
                        exact hk
                      generalize hC : (cs.toList.take (len * ks'.length) ++ news ++ cs.toList.drop (len * ks'.length + news.length)).toArray = C at hrun hcsz' hpre
                      have hnew := setRow_heap w L.b cs C ct (0, 0) hcs
                      have hsame : ∀ k, k ≠ L.b → (w.setRow L.b C).heap[k]? = w.heap[k]? := fun k hk => setRow_other w L.b k C hk
                      have hsize : (w.setRow L.b C).heap.size = w.heap.size := by simp [World.setRow]
                      have rall := ro'.append rn
                      obtain ⟨t1, t2⟩ := rep_over' (L' := ⟨L.b, 0, L.sz, len + m, .nil⟩) (B' := .rows ks' (len + m) (appG g len src) true) hrep (blk_some hblk) hL rfl (by intro b hf; exact ⟨hpos, hf.2⟩)
                        (Nat.le_of_eq hsize.symm) (fun k hk _ => hsame k (fun e => hk ⟨hpos, e.symm⟩))
                        (repB_rows (⟨rall.1, fun j c sk hj hc => by obtain ⟨u, h1, h2⟩ := rall.2 j c sk hj hc; exact ⟨u, h1, relS.mono _ h2⟩⟩ : RowsIn (φ ++ [⟨L.b, 0, L.sz, len + m, .nil⟩]) ks' (len + m) (appG g len src) _) rfl rfl hfit hnew (by simp only; omega) hpre)
                      have hlast : (φ ++ [⟨L.b, 0, L.sz, len + m, .nil⟩])[H.length]? = some (⟨L.b, 0, L.sz, len + m, .nil⟩ : Loc) := by rw [← hrep.len]; simp
                      refine ⟨_, _, _, hrun, ⟨_, hlast, rfl, hfit0, .inr ⟨cap, hcc, hszz, by simp [hb0]⟩⟩, t1, ⟨t2, rfl, rfl, rfl⟩⟩
                · cases hr
              · cases hr
            · cases hr
          · cases hr
        · cases hr
      · cases hr
    · cases hr
  · cases hr

/-! ### a slice over all rows of a block -/

theorem slr_whole {heap : Array Obj} {id wd n0 n : Nat} {ks : List SK} {g : Nat → Nat → Int} {own : Bool} {v : Value} (hrep : Rep φ H heap) (hb : blk H id = some (.rows ks n g own)) (h : relS φ (.slw id wd n0) v) : n0 = n ∧ relS φ (.slr id wd 0 n n) v := by
  obtain ⟨L', hL', hLn, _⟩ := hrep.blk _ _ (blk_some hb)
  have h0 := h
  obtain ⟨L, hL, hn, _⟩ := h0
  rw [hL] at hL'; cases hL'
  have e : n0 = n := by omega
  subst e
  exact ⟨rfl, slr_of_slw h⟩

theorem slw_whole {heap : Array Obj} {id wd n : Nat} {ks : List SK} {g : Nat → Nat → Int} {own : Bool} {v : Value} (hrep : Rep φ H heap) (hb : blk H id = some (.rows ks n g own)) (h : relS φ (.slr id wd 0 n n) v) : relS φ (.slw id wd n) v := by
  obtain ⟨L', hL', hLn, _⟩ := hrep.blk _ _ (blk_some hb)
  rcases h with ⟨h0, _, a, rfl⟩ | ⟨L, cap, hL, h1, h2, h3, h4, rfl⟩
  · exact ⟨L', hL', by omega, .inl ⟨h0, a, rfl⟩⟩
  · rw [hL'] at hL; cases hL
    exact ⟨_, hL', by omega, .inr ⟨cap, h2, by simpa using h4, by simp⟩⟩

theorem blk_last {H : AH} {B : Blk} : blk (H ++ [some B]) H.length = some B := by simp [blk]

theorem blk_last' {H : AH} {id : Nat} {x : Option Blk} {B : Blk} : blk (H.set id x ++ [some B]) H.length = some B := by
  have : H.length = (H.set id x).length := by simp
  rw [this]
  exact blk_last

theorem appendT_shape {y : Option Nat} {sT xT : TypeId} {a b tv : TV} {H' : AH} (h : (appendT P y H sT xT a b).val = some (tv, H')) : ∃ wd q ks g own, tv = .v (.s (.slr H.length wd 0 q q)) ∧ blk H' H.length = some (.rows ks q g own) := by
  unfold appendT at h
  split at h
  · split at h
    · split at h
      · split at h
        · split at h
          · obtain ⟨_, h⟩ := val_chk h
            have h := val_ok h
            simp only [Prod.mk.injEq] at h
            obtain ⟨rfl, rfl⟩ := h
            exact ⟨_, _, _, _, _, rfl, blk_last⟩
          · split at h
            · split at h
              · split at h
                · simp [Tr.val] at h
                · obtain ⟨_, h⟩ := val_chkB h
                  have h := val_ok h
                  simp only [Prod.mk.injEq] at h
                  obtain ⟨rfl, rfl⟩ := h
                  exact ⟨_, _, _, _, _, rfl, blk_last'⟩
              · simp [Tr.val] at h
            · simp [Tr.val] at h
          · split at h
            · split at h
              · obtain ⟨_, h⟩ := val_chk h
                have h := val_ok h
                simp only [Prod.mk.injEq] at h
                obtain ⟨rfl, rfl⟩ := h
                exact ⟨_, _, _, _, _, rfl, blk_last⟩
              · simp [Tr.val] at h
            · simp [Tr.val] at h
          · simp [Tr.val] at h
        · simp [Tr.val] at h
      · simp [Tr.val] at h
    · simp [Tr.val] at h
  · simp [Tr.val] at h

theorem run_appendT' {y : Option Nat} {sT xT ty : TypeId} {a b tv : TV} {H' : AH} {va vb : Value} {w : World} (h : (appendT P y H sT xT a b).val = some (tv, H')) (hrep : Rep φ H w.heap) (ha : relT φ a va) (hb : relT φ b vb) :
    ∃ u w' φ', (Builtin.append_ #[sT, xT] ty #[va, vb]).run P w = .ok u w' ∧ relT φ' (toSlw (tv, H')).1 u ∧ Rep φ' H' w'.heap ∧ Ext φ H w φ' H' w' := by
  obtain ⟨wd, q, ks, g, own, rfl, hblk⟩ := appendT_shape h
  obtain ⟨u, w', φ', h1, h2, h3, h4⟩ := run_appendT (ty := ty) h hrep ha hb
  exact ⟨u, w', φ', h1, slw_whole h3 hblk h2, h3, h4⟩

theorem run_appendS {y : Option Nat} {sT xT ty : TypeId} {a b tv : TV} {H' : AH} {va vb : Value} {w : World} (h : (appendS P y H sT xT a b).val = some (tv, H')) (hrep : Rep φ H w.heap) (ha : relT φ a va) (hb : relT φ b vb) :
    ∃ u w' φ', (Builtin.append_ #[sT, xT] ty #[va, vb]).run P w = .ok u w' ∧ relT φ' tv u ∧ Rep φ' H' w'.heap ∧ Ext φ H w φ' H' w' := by
  unfold appendS at h
  split at h
  · split at h
    · rename_i e hs
      split at h
      · rename_i ks hks
        split at h
        · rename_i sid m src hsrc
          split at h
          · simp [Tr.val] at h
          · rename_i hc
            simp only [not_or, Classical.not_not] at hc
            obtain ⟨hk0, hsid, _, hsz, hby⟩ := hc
            split at h
            · rename_i e' hx
              obtain ⟨hc, h⟩ := val_chk h
              have h := val_ok h
              simp only [Prod.mk.injEq] at h
              obtain ⟨rfl, rfl⟩ := h
              have hle : m ≤ 1073741824 := of_decide_eq_true hc
              simp only [relT, relA, relS] at ha
              subst ha
              obtain ⟨r1, r2⟩ := rep_zero (ks := ks) (g := fun _ _ => 0) hrep
              have hb' : relT (φ ++ [⟨0, 0, 0, 0, .nil⟩]) b vb := relT.mono _ hb
              have hrel : relT (φ ++ [⟨0, 0, 0, 0, .nil⟩]) (.v (.s (.slr H.length ks.length 0 0 0))) (.slice none 0 0) := .inl ⟨rfl, rfl, none, rfl⟩
              have hval : (appendT P none (H ++ [some (Blk.rows ks 0 (fun _ _ => 0) true)]) sT xT (.v (.s (.slr H.length ks.length 0 0 0))) b).val =
                  some (.v (.s (.slr (H ++ [some (Blk.rows ks 0 (fun _ _ => 0) true)]).length ks.length 0 (0 + m) (0 + m))), (H ++ [some (Blk.rows ks 0 (fun _ _ => 0) true)]).set H.length none ++ [some (.rows ks (0 + m) (appG (fun _ _ => 0) 0 src) true)]) := by
                unfold appendT
                simp only [hs, hx, hks, hsz, hsrc]
                rw [if_pos ⟨trivial, hk0, by omega⟩]
                simp only [blk_last, and_self, if_true]
                rw [if_neg hsid, chkB_none (by
                  have hcb : 1073741824 ≤ capB (P.bytesOf e) := by unfold capB; split <;> decide
                  have : m ≤ capB (P.bytesOf e) := by omega
                  simp [this])]
                rfl
              obtain ⟨u, w', φ', g1, g2, g3, g4⟩ := run_appendT' (ty := ty) hval r1 hrel hb'
              refine ⟨u, w', φ', g1, ?_, ?_, ?_⟩
              · have e1 : 0 + m = m := by omega
                simp only [toSlw, e1] at g2
                simpa using g2
              · have e2 : appG (fun _ _ => 0) 0 src = src := by funext i c; simp [appG]
                have e3 : (H ++ [some (Blk.rows ks 0 (fun _ _ => 0) true)]).set H.length none = H ++ [none] := by simp
                rw [e2, e3] at g3
                simpa using g3
              · have e2 : appG (fun _ _ => 0) 0 src = src := by funext i c; simp [appG]
                have e3 : (H ++ [some (Blk.rows ks 0 (fun _ _ => 0) true)]).set H.length none = H ++ [none] := by simp
                have := (⟨r2, rfl, rfl, rfl⟩ : Ext φ H w _ _ w).trans g4
                rw [e2, e3] at this
                simpa using this
            · simp [Tr.val] at h
        · simp [Tr.val] at h
      · simp [Tr.val] at h
    · simp [Tr.val] at h
  · split at h
    · rename_i e hs
      split at h
      · rename_i ks hks
        split at h
        · rename_i sid m src hsrc
          split at h
          · simp [Tr.val] at h
          · rename_i hc
            simp only [not_or, Classical.not_not] at hc
            obtain ⟨hk0, hsid, _, hsz, hby⟩ := hc
            split at h
            · rename_i e' hx
              obtain ⟨hc, h⟩ := val_chk h
              have h := val_ok h
              simp only [Prod.mk.injEq] at h
              obtain ⟨rfl, rfl⟩ := h
              have hle : m ≤ 1073741824 := of_decide_eq_true hc
              simp only [relT, relA, relS] at ha
              obtain ⟨a0, rfl⟩ := ha
              obtain ⟨r1, r2⟩ := rep_zero (ks := ks) (g := fun _ _ => 0) hrep
              have hb' : relT (φ ++ [⟨0, 0, 0, 0, .nil⟩]) b vb := relT.mono _ hb
              have hrel : relT (φ ++ [⟨0, 0, 0, 0, .nil⟩]) (.v (.s (.slr H.length ks.length 0 0 0))) (.slice (some a0) 0 0) := .inl ⟨rfl, rfl, some a0, rfl⟩
              have hval : (appendT P none (H ++ [some (Blk.rows ks 0 (fun _ _ => 0) true)]) sT xT (.v (.s (.slr H.length ks.length 0 0 0))) b).val =
                  some (.v (.s (.slr (H ++ [some (Blk.rows ks 0 (fun _ _ => 0) true)]).length ks.length 0 (0 + m) (0 + m))), (H ++ [some (Blk.rows ks 0 (fun _ _ => 0) true)]).set H.length none ++ [some (.rows ks (0 + m) (appG (fun _ _ => 0) 0 src) true)]) := by
                unfold appendT
                simp only [hs, hx, hks, hsz, hsrc]
                rw [if_pos ⟨trivial, hk0, by omega⟩]
                simp only [blk_last, and_self, if_true]
                rw [if_neg hsid, chkB_none (by
                  have hcb : 1073741824 ≤ capB (P.bytesOf e) := by unfold capB; split <;> decide
                  have : m ≤ capB (P.bytesOf e) := by omega
                  simp [this])]
                rfl
              obtain ⟨u, w', φ', g1, g2, g3, g4⟩ := run_appendT' (ty := ty) hval r1 hrel hb'
              refine ⟨u, w', φ', g1, ?_, ?_, ?_⟩
              · have e1 : 0 + m = m := by omega
                simp only [toSlw, e1] at g2
                simpa using g2
              · have e2 : appG (fun _ _ => 0) 0 src = src := by funext i c; simp [appG]
                have e3 : (H ++ [some (Blk.rows ks 0 (fun _ _ => 0) true)]).set H.length none = H ++ [none] := by simp
                rw [e2, e3] at g3
                simpa using g3
              · have e2 : appG (fun _ _ => 0) 0 src = src := by funext i c; simp [appG]
                have e3 : (H ++ [some (Blk.rows ks 0 (fun _ _ => 0) true)]).set H.length none = H ++ [none] := by simp
                have := (⟨r2, rfl, rfl, rfl⟩ : Ext φ H w _ _ w).trans g4
                rw [e2, e3] at this
                simpa using this
            · simp [Tr.val] at h
        · simp [Tr.val] at h
      · simp [Tr.val] at h
    · simp [Tr.val] at h
  · rename_i id wd n0
    split at h
    · rename_i e e' hs hx
      split at h
      · rename_i ks hks
        split at h
        · rename_i sid m src hsrc
          split at h
          · rename_i ks' n g hblk
            split at h
            · rename_i hc
              obtain ⟨hk0, hsid, hsz, hby, rfl, rfl⟩ := hc
              obtain ⟨hc, h⟩ := val_chkB h
              have h := val_ok h
              simp only [Prod.mk.injEq] at h
              obtain ⟨rfl, rfl⟩ := h
              have hle : n + m ≤ capB (P.bytesOf e) := of_decide_eq_true hc
              obtain ⟨rfl, ha'⟩ := slr_whole hrep hblk ha
              have hval : (appendT P none H sT xT (.v (.s (.slr id ks'.length 0 n0 n0))) b).val =
                  some (.v (.s (.slr H.length ks'.length 0 (n0 + m) (n0 + m))), H.set id none ++ [some (.rows ks' (n0 + m) (appG g n0 src) true)]) := by
                unfold appendT
                simp only [hs, hx, hks, hsz, hsrc]
                rw [if_pos ⟨trivial, hk0, by omega⟩]
                simp only [hblk, and_self, if_true]
                rw [if_neg hsid, chkB_none (by simp [hle])]
                rfl
              exact run_appendT' (ty := ty) hval hrep ha' hb
            · simp [Tr.val] at h
          · simp [Tr.val] at h
        · simp [Tr.val] at h
      · simp [Tr.val] at h
    · simp [Tr.val] at h
  · split at h
    · rename_i r hr
      exact run_inT (ty := ty) hr h hrep ha hb
    rw [Tr.val_bind] at h
    obtain ⟨r, h1, h2⟩ := Option.bind_eq_some_iff.1 h
    have h2 := val_ok h2
    obtain ⟨tv1, H1⟩ := r
    obtain ⟨u, w', φ', g1, g2, g3, g4⟩ := run_appendT' (ty := ty) h1 hrep ha hb
    have e : H' = H1 := by
      obtain ⟨wd, q, ks, g, own, rfl, _⟩ := appendT_shape h1
      simp only [toSlw, Prod.mk.injEq] at h2
      exact h2.2.symm
    subst e
    rw [h2] at g2
    exact ⟨u, w', φ', g1, g2, g3, g4⟩

/-! ### a literal text's bytes -/

theorem run_litBytesT {s d : TypeId} {x tv : TV} {H' : AH} {v : Value} {w : World} (h : litBytesT P H s d x = some (tv, H')) (hrep : Rep φ H w.heap) (hx : relT φ x v) :
    ∃ u w' φ', (convert s d v).run P w = .ok u w' ∧ relT φ' tv u ∧ Rep φ' H' w'.heap ∧ Ext φ H w φ' H' w' := by
  unfold litBytesT at h
  split at h
  · rename_i e id len hsd hu
    have := Nat.eq_of_beq_eq_true hsd
    subst this
    split at h
    · rename_i l he hb
      split at h
      · rename_i hl
        obtain ⟨hl, hl0⟩ := hl
        split at h
        · rename_i rs hrs
          simp only [Option.some.injEq, Prod.mk.injEq] at h
          obtain ⟨rfl, rfl⟩ := h
          obtain ⟨L, hL, h0, hsz, hreal⟩ := hrep.blk _ _ (blk_some hb)
          rcases hreal with hz | ⟨cs, ty, hcs, hrel⟩
          · omega
          have hlen := hrel.length_eq
          simp at hlen
          rcases hx with ⟨h1, _⟩ | ⟨L', cap, hL', hle, rfl⟩
          · omega
          rw [hL] at hL'; cases hL'
          rw [h0]
          simp only [Nat.zero_add]
          have hnew : (w.freeze ⟨L.b, cs.size, none⟩ 1).heap[L.b]? = some (.cells cs ty (cs.size, cs.size + 1)) ∧ (∀ b, b ≠ L.b → (w.freeze ⟨L.b, cs.size, none⟩ 1).heap[b]? = w.heap[b]?) ∧ (w.freeze ⟨L.b, cs.size, none⟩ 1).heap.size = w.heap.size ∧
              (w.freeze ⟨L.b, cs.size, none⟩ 1).os = w.os ∧ (w.freeze ⟨L.b, cs.size, none⟩ 1).output = w.output ∧ (w.freeze ⟨L.b, cs.size, none⟩ 1).tape = w.tape := by
            unfold World.freeze
            rw [if_neg (by decide)]
            refine ⟨?_, fun b hb => ?_, by simp, rfl, rfl, rfl⟩
            · simp only [Array.getElem?_modify, if_true, hcs, Option.map_some]
              rfl
            · simp only [Array.getElem?_modify]
              rw [if_neg (fun e => hb e.symm)]
          obtain ⟨n1, n2, n3, n4, n5, n6⟩ := hnew
          obtain ⟨hrl, hspec⟩ := rowsOf_spec hrs
          have hB : RepB (φ ++ [⟨L.b, 0, L.sz, len, .nil⟩]) ⟨L.b, 0, L.sz, len, .nil⟩ (w.freeze ⟨L.b, cs.size, none⟩ 1).heap (.rows [.n .u8] len (rowsF rs) false) := by
            refine ⟨rfl, by simp; omega, .inr ⟨cs, ty, _, n1, by simp only; omega, fun h => (by cases h), fun i c sk hi hc => ?_⟩⟩
            have := hspec i c sk hi hc
            obtain ⟨u, e1, e2⟩ := hrel.get this
            refine ⟨u, by simpa using e1, ?_⟩
            rw [rowsF_eq (by omega)]
            exact relS.mono _ e2
          obtain ⟨r1, r2⟩ := rep_over' (L' := ⟨L.b, 0, L.sz, len, .nil⟩) (B' := .rows [.n .u8] len (rowsF rs) false) hrep (blk_some hb) hL rfl (by intro b hb; exact ⟨hb.1, hb.2⟩) (Nat.le_of_eq n3.symm) (fun b hb _ => n2 b fun e => hb ⟨by omega, e.symm⟩) hB
          have hlast : (φ ++ [⟨L.b, 0, L.sz, len, .nil⟩])[H.length]? = some (⟨L.b, 0, L.sz, len, .nil⟩ : Loc) := by rw [← hrep.len]; simp
          have hshape : w.shape? L.b = some (ty, cs.size) := by simp [World.shape?, hcs]
          refine ⟨.slice (some ⟨L.b, 0, none⟩) len cap, w.freeze ⟨L.b, cs.size, none⟩ 1, _, ?_, ?_, r1, ⟨r2, n4, n5, n6⟩⟩
          · simp [convert, run_underlying hu, run_underlying he, markStringish, hshape]
          · exact .inr ⟨_, cap, hlast, hle, by simp, by simp⟩
        · cases h
      · cases h
    · cases h
  · cases h

theorem run_convE {s d : TypeId} {x tv : TV} {H' : AH} {v : Value} {w : World} (h : convE P H s d x = some (tv, H')) (hrep : Rep φ H w.heap) (hx : relT φ x v) :
    ∃ u w' φ', (convert s d v).run P w = .ok u w' ∧ relT φ' tv u ∧ Rep φ' H' w'.heap ∧ Ext φ H w φ' H' w' := by
  unfold convE at h
  split at h
  · exact run_strBytesT h hrep hx
  · exact run_litBytesT h hrep hx

/-! ### copy, clear -/

theorem run_copyT {dT sT ty : TypeId} {a b tv : TV} {H' : AH} {va vb : Value} {w : World} (h : copyT P H dT a b = some (tv, H')) (hrep : Rep φ H w.heap) (ha : relT φ a va) (hb : relT φ b vb) :
    ∃ u w' φ', (Builtin.copy_ #[dT, sT] ty #[va, vb]).run P w = .ok u w' ∧ relT φ' tv u ∧ Rep φ' H' w'.heap ∧ Ext φ H w φ' H' w' := by
  unfold copyT at h
  split at h
  · rename_i e hu
    split at h
    · rename_i wd did wd1 o dlen sid wd2 so slen hwd
      split at h
      · rename_i hw
        obtain ⟨hw1, hw2⟩ := hw
        subst hw1
        subst hw2
        split at h
        · rename_i l ls hbd hbs
          split at h
          · rename_i hc
            obtain ⟨h1, h2, h3⟩ := hc
            rw [forceL_eq] at h
            simp only [Option.some.injEq, Prod.mk.injEq] at h
            obtain ⟨rfl, rfl⟩ := h
            obtain ⟨i, hi, hsz, _⟩ := sizeT_some hwd
            have hm0 : min slen dlen ≠ 0 := fun e0 => h3 (by rw [e0, Nat.zero_mul])
            obtain ⟨Ld, hLd, hd0, hdsz, hdreal⟩ := hrep.blk _ _ (blk_some hbd)
            obtain ⟨Ls, hLs, hs0, hssz, hsreal⟩ := rep_blkC hrep hbs
            rcases ha with ⟨h0, _⟩ | ⟨L1, cap1, e1, hle1, rfl⟩
            · omega
            rcases hb with ⟨h0, _⟩ | ⟨L2, cap2, e2, hle2, rfl⟩
            · omega
            rw [hLd] at e1; cases e1
            rw [hLs] at e2; cases e2
            rcases hdreal with hz | ⟨cs, ct, hcs, hrel⟩
            · omega
            rcases hsreal with hz | ⟨ds, dt, hds, hrel2⟩
            · omega
            have l1 := hrel.length_eq
            have l2 := hrel2.length_eq
            simp only [Array.length_toList] at l1 l2
            have hnews : ((ds.toList.drop so).take (min slen dlen * wd2)).length = min slen dlen * wd2 := by simp; omega
            have hfc := run_firstCells_some (P := P) w wd2 (min slen dlen) ⟨Ls.b, Ls.base + so, none⟩ slen cap2 ((ds.toList.drop so).take (min slen dlen * wd2)) hnews (fun j u hj => by
              rw [List.getElem?_take] at hj
              split at hj
              · rw [List.getElem?_drop, Array.getElem?_toList] at hj
                simp only [add_zero_off, World.cell?, hds]
                simpa [hs0] using hj
              · cases hj)
            have hrn : All2 (relS φ) ((ls.drop so).take (min slen dlen * wd2)) ((ds.toList.drop so).take (min slen dlen * wd2)) := (hrel2.drop so).take _
            have hst := run_storeCells_at P Ld.b o ct ((ds.toList.drop so).take (min slen dlen * wd2)) 0 cs w hcs (by rw [hnews]; omega) (all_oneCell hrn)
            have hrun : (Builtin.copy_ #[dT, sT] ty #[.slice (some ⟨Ld.b, Ld.base + o, none⟩) dlen cap1, .slice (some ⟨Ls.b, Ls.base + so, none⟩) slen cap2]).run P w =
                .ok (goInt ((min slen dlen : Nat) : Int)) (w.setRow Ld.b (cs.toList.take (o + 0) ++ (ds.toList.drop so).take (min slen dlen * wd2) ++ cs.toList.drop (o + 0 + ((ds.toList.drop so).take (min slen dlen * wd2)).length)).toArray) := by
              have hmin : Nat.min slen dlen = min slen dlen := rfl
              rw [hd0, Nat.zero_add]
              simp only [Builtin.copy_, List.getElem?_toArray, List.getElem?_cons_zero, List.getElem?_cons_succ, Sem.run_bind, run_underlying hu, Result.andThen_ok, Builtin.lenOf, Sem.run_pure, run_size hwd, hmin]
              rw [hfc]
              simp only [Result.andThen_ok]
              rw [hst]
              simp
            obtain ⟨r1, r2⟩ := rep_setW (w := w) (B' := .cells (setAll l o ((ls.drop so).take (min slen dlen * wd2)))) (w' := w.setRow Ld.b (cs.toList.take (o + 0) ++ (ds.toList.drop so).take (min slen dlen * wd2) ++ cs.toList.drop (o + 0 + ((ds.toList.drop so).take (min slen dlen * wd2)).length)).toArray) rfl rfl rfl hrep (blk_some hbd) hLd rfl (fun _ h => h) (by simp [World.setRow])
              (fun k hk _ => setRow_other w Ld.b k _ (fun e => hk ⟨by omega, e.symm⟩))
              ⟨hd0, by simp [setAll]; omega, .inr ⟨_, ct, setRow_heap w Ld.b cs _ ct (0, 0) hcs, by
                have := setAll_rel hrel hrn o
                rw [Nat.add_zero]
                exact this⟩⟩
            exact ⟨_, _, _, hrun, rfl, r1, r2⟩
          · cases h
        · cases h
      · cases h
    · cases h
  · cases h

theorem kindsL_spec : ∀ {as : List AS} {ks : List SK}, kindsL as = some ks → ∀ (c : Nat) (sk : SK), ks[c]? = some sk → as[c]? = some (mkS sk 0)
  | [], ks, h, c, sk, hc => by simp [kindsL] at h; subst h; simp at hc
  | a :: as, ks, h, c, sk, hc => by
    simp only [kindsL] at h
    split at h
    · rename_i k hk
      split at h
      · rename_i r hr
        cases h
        cases c with
        | zero =>
          simp only [List.getElem?_cons_zero, Option.some.injEq] at hc
          subst hc
          unfold kindOf at hk
          split at hk
          · cases hk; rfl
          · split at hk
            · rename_i hx; subst hx; cases hk; rfl
            · cases hk
          · cases hk
        | succ c => simpa using kindsL_spec hr c sk (by simpa using hc)
      · cases h
    · cases h

theorem kindsT_zero {e : TypeId} {ks : List SK} (h : kindsT P e = some ks) : ∃ i z, P.info? e = some i ∧ i.zero = some z ∧ z.cells.size = ks.length ∧ ∀ (c : Nat) (sk : SK), ks[c]? = some sk → ∃ u, z.cells[c]? = some u ∧ relS φ (mkS sk 0) u := by
  have h' := h
  unfold kindsT at h
  cases hz : zeroT P e with
  | none => simp [hz] at h
  | some l =>
    simp only [hz, Option.bind_some] at h
    obtain ⟨i, z, h1, h2, h3⟩ := zeroT_rel (φ := φ) hz
    refine ⟨i, z, h1, h2, ?_, fun c sk hc => ?_⟩
    · have := h3.length_eq
      rw [kindsL_len h, this]
      simp
    · obtain ⟨u, g1, g2⟩ := h3.get (kindsL_spec h c sk hc)
      exact ⟨u, by simpa using g1, g2⟩

theorem rowsIn_zero {ks : List SK} {z : Array Value} (hz : z.size = ks.length) (h : ∀ (c : Nat) (sk : SK), ks[c]? = some sk → ∃ u, z[c]? = some u ∧ relS φ (mkS sk 0) u) (m : Nat) : RowsIn φ ks m (fun _ _ => 0) (Builtin.zeroCells z m).toList := by
  refine ⟨by simp [Builtin.zeroCells, hz], fun j c sk hj hc => ?_⟩
  have hcl := get_lt hc
  obtain ⟨u, h1, h2⟩ := h c sk hc
  refine ⟨u, ?_, h2⟩
  have hlt : j * ks.length + c < m * z.size := by rw [hz]; exact idx_lt hj hcl
  have hmod : (j * ks.length + c) % z.size = c := by
    rw [hz, Nat.add_comm, Nat.add_mul_mod_self_right, Nat.mod_eq_of_lt hcl]
  simp only [Builtin.zeroCells, Array.toList_map, Array.toList_range, List.getElem?_map, List.getElem?_range hlt, Option.map_some, hmod]
  rw [getElem!_def, h1]

theorem run_clearT {t ty : TypeId} {a tv : TV} {H' : AH} {va : Value} {w : World} (h : clearT P H t a = some (tv, H')) (hrep : Rep φ H w.heap) (ha : relT φ a va) :
    ∃ u w' φ', (Builtin.clear_ #[t] ty #[va]).run P w = .ok u w' ∧ relT φ' tv u ∧ Rep φ' H' w'.heap ∧ Ext φ H w φ' H' w' := by
  unfold clearT at h
  split at h
  · rename_i e hu
    split at h
    · rename_i ks id wd i0 len cp hks
      split at h
      · rename_i ks' n g hblk
        split at h
        · rename_i hk
          obtain ⟨hwd, rfl⟩ := hk
          subst hwd
          simp only [Option.some.injEq, Prod.mk.injEq] at h
          obtain ⟨rfl, rfl⟩ := h
          obtain ⟨i, z, hi, hz, hzs, hzr⟩ := kindsT_zero (φ := φ) hks
          obtain ⟨L, hL, hLn, hnsz, hreal⟩ := hrep.blk _ _ (blk_some hblk)
          have hidlt : id < H.length := get_lt (blk_some hblk)
          have stay : len * ks'.length = 0 ∨ len = 0 → ∃ w' φ', w' = w ∧ relT φ' (.tup []) (.tuple #[]) ∧ Rep φ' (H.set id (some (.rows ks' n (midG g i0 len fun _ _ => 0) true))) w'.heap ∧ Ext φ H w φ' (H.set id (some (.rows ks' n (midG g i0 len fun _ _ => 0) true))) w' := by
            intro h0
            obtain ⟨r1, r2⟩ := rep_setW (w := w) (B' := .rows ks' n (midG g i0 len fun _ _ => 0) true) (w' := w) rfl rfl rfl hrep (blk_some hblk) hL rfl (fun _ h => h) (Nat.le_refl _) (fun _ _ _ => rfl)
              ⟨hLn, hnsz, hreal.imp (fun z => z) fun ⟨cs, ct, fr, k1, k2, k3, k4⟩ => ⟨cs, ct, fr, k1, k2, k3, fun j c sk hj hc => by
                obtain ⟨u, q1, q2⟩ := k4 j c sk hj hc
                refine ⟨u, q1, ?_⟩
                have : ¬ (i0 ≤ j ∧ j < i0 + len) := by
                  have := get_lt hc
                  rcases h0 with h0 | h0
                  · rcases Nat.mul_eq_zero.1 h0 with h | h <;> omega
                  · omega
                simpa [midG, this] using q2⟩⟩
            exact ⟨w, φ, rfl, ⟨#[], rfl, trivial⟩, r1, r2⟩
          rcases ha with ⟨h0, h1, a0, rfl⟩ | ⟨L', cap, hL', hle, hcc, hnn, hszz, rfl⟩
          · obtain ⟨w', φ', rfl, r1, r2, r3⟩ := stay (.inr h0)
            refine ⟨_, w', φ', ?_, r1, r2, r3⟩
            cases a0 <;> simp [Builtin.clear_, run_underlying hu]
          · rw [hL] at hL'; cases hL'
            rcases Nat.eq_zero_or_pos len with h0 | hpos
            · obtain ⟨w', φ', rfl, r1, r2, r3⟩ := stay (.inr h0)
              subst h0
              exact ⟨_, w', φ', by simp [Builtin.clear_, run_underlying hu], r1, r2, r3⟩
            · have hzz := rowsIn_zero hzs hzr len
              have hclear : ∀ {w' : World}, (storeCells ⟨L.b, L.base + i0 * ks'.length, none⟩ (Builtin.zeroCells z.cells len).toList).run P w = .ok () w' →
                  (Builtin.clear_ #[t] ty #[.slice (some ⟨L.b, L.base + i0 * ks'.length, none⟩) len cap]).run P w = .ok (.tuple #[]) w' := by
                intro w' hst
                obtain ⟨len', rfl⟩ : ∃ len', len = len' + 1 := ⟨len - 1, by omega⟩
                simp [Builtin.clear_, run_underlying hu, zeroValue, typeInfo, hi, hz, hst]
              rcases Nat.eq_zero_or_pos (len * ks'.length) with hzero | hpos2
              · obtain ⟨w', φ', rfl, r1, r2, r3⟩ := stay (.inl hzero)
                have e0 : (Builtin.zeroCells z.cells len).toList = [] := List.length_eq_zero_iff.1 (by rw [hzz.1, hzero])
                exact ⟨_, w', φ', hclear (by rw [e0]; simp [storeCells]), r1, r2, r3⟩
              · have hle1 : (i0 + len) * ks'.length ≤ (i0 + cap) * ks'.length := Nat.mul_le_mul_right _ (by omega)
                have hadd : (i0 + len) * ks'.length = i0 * ks'.length + len * ks'.length := Nat.add_mul _ _ _
                rcases hreal with hz0 | ⟨cs, ct, fr, hcs, hcsz, hown, hrows⟩
                · omega
                obtain ⟨hb0, hfr⟩ := hown rfl
                subst hfr
                have hst := run_storeCells_at P L.b (i0 * ks'.length) ct (Builtin.zeroCells z.cells len).toList 0 cs w hcs (by rw [hzz.1]; omega) hzz.one
                rw [Nat.add_zero] at hst
                have hnew := setRow_heap w L.b cs (cs.toList.take (i0 * ks'.length) ++ (Builtin.zeroCells z.cells len).toList ++ cs.toList.drop (i0 * ks'.length + (Builtin.zeroCells z.cells len).toList.length)).toArray ct (0, 0) hcs
                have hzl := hzz.1
                have hzg := hzz.2
                generalize (Builtin.zeroCells z.cells len).toList = zs at *
                obtain ⟨r1, r2⟩ := rep_setW (w := w) (B' := .rows ks' n (midG g i0 len fun _ _ => 0) true) (w' := w.setRow L.b (cs.toList.take (i0 * ks'.length) ++ zs ++ cs.toList.drop (i0 * ks'.length + zs.length)).toArray) rfl rfl rfl hrep (blk_some hblk) hL rfl (fun _ h => h) (by simp [World.setRow])
                  (fun k hk _ => setRow_other w L.b k _ (fun e => hk ⟨by omega, e.symm⟩))
                  ⟨hLn, hnsz, .inr ⟨_, ct, (0, 0), hnew, by simp [hzl]; omega, fun _ => ⟨hb0, rfl⟩, fun j c sk hj hc => by
                    have hcl := get_lt hc
                    rw [hb0, Nat.zero_add, List.getElem?_toArray]
                    have hlt := idx_lt hj hcl
                    unfold midG
                    by_cases hin : i0 ≤ j ∧ j < i0 + len
                    · obtain ⟨u, q1, q2⟩ := hzg (j - i0) c sk (by omega) hc
                      refine ⟨u, ?_, by rw [if_pos hin]; exact q2⟩
                      have hsub : (j - i0) * ks'.length = j * ks'.length - i0 * ks'.length := Nat.sub_mul _ _ _
                      have hge : i0 * ks'.length ≤ j * ks'.length := Nat.mul_le_mul_right _ hin.1
                      have htl : (cs.toList.take (i0 * ks'.length)).length = i0 * ks'.length := by simp; omega
                      rw [List.getElem?_append_left (by rw [List.length_append, htl]; have := get_lt q1; omega), List.getElem?_append_right (by omega), htl]
                      rw [← q1]
                      congr 1
                      omega
                    · obtain ⟨u, q1, q2⟩ := hrows j c sk hj hc
                      rw [hb0, Nat.zero_add] at q1
                      refine ⟨u, ?_, by rw [if_neg hin]; exact q2⟩
                      have htl : (cs.toList.take (i0 * ks'.length)).length = i0 * ks'.length := by simp; omega
                      rcases Nat.lt_or_ge j i0 with hj0 | hj0
                      · have := idx_lt hj0 hcl
                        rw [List.getElem?_append_left (by rw [List.length_append, htl]; omega), List.getElem?_append_left (by omega), List.getElem?_take, if_pos this, Array.getElem?_toList]
                        exact q1
                      · have hge : (i0 + len) * ks'.length ≤ j * ks'.length := Nat.mul_le_mul_right _ (by omega)
                        rw [List.getElem?_append_right (by rw [List.length_append, htl, hzl]; omega), List.getElem?_drop, List.length_append, htl, hzl, Array.getElem?_toList]
                        rw [← q1]
                        congr 1
                        omega⟩⟩
                exact ⟨_, _, _, hclear (by rw [hb0, Nat.zero_add]; exact hst), ⟨#[], rfl, trivial⟩, r1, r2⟩
        · cases h
      · cases h
    · rename_i ks id wd len hks
      split at h
      · rename_i ks' n g hblk
        split at h
        · rename_i hk
          obtain ⟨hwd, rfl⟩ := hk
          subst hwd
          simp only [Option.some.injEq, Prod.mk.injEq] at h
          obtain ⟨rfl, rfl⟩ := h
          obtain ⟨i, z, hi, hz, hzs, hzr⟩ := kindsT_zero (φ := φ) hks
          obtain ⟨L, hL, hLn, hnsz, hreal⟩ := hrep.blk _ _ (blk_some hblk)
          have stay : ∃ w' φ', w' = w ∧ relT φ' (.tup []) (.tuple #[]) ∧ Rep φ' (H.set id (some (.rows ks' n g true))) w'.heap ∧ Ext φ H w φ' (H.set id (some (.rows ks' n g true))) w' := by
            obtain ⟨r1, r2⟩ := rep_setW (w := w) (B' := .rows ks' n g true) (w' := w) rfl rfl rfl hrep (blk_some hblk) hL rfl (fun _ h => h) (Nat.le_refl _) (fun _ _ _ => rfl) ⟨hLn, hnsz, hreal⟩
            exact ⟨w, φ, rfl, ⟨#[], rfl, trivial⟩, r1, r2⟩
          obtain ⟨L', hL', ha⟩ := ha
          rw [hL] at hL'; cases hL'
          rcases ha with ⟨h0, a0, rfl⟩ | ⟨o, cap, hno, hle, hszz, rfl⟩
          · obtain ⟨w', φ', rfl, r1, r2, r3⟩ := stay
            subst h0
            refine ⟨_, w', φ', ?_, r1, r2, r3⟩
            cases a0 <;> simp [Builtin.clear_, run_underlying hu]
          · rcases Nat.eq_zero_or_pos len with h0 | hpos
            · obtain ⟨w', φ', rfl, r1, r2, r3⟩ := stay
              subst h0
              exact ⟨_, w', φ', by simp [Builtin.clear_, run_underlying hu], r1, r2, r3⟩
            · have hzz := rowsIn_zero hzs hzr len
              have hclear : ∀ {w' : World}, (storeCells ⟨L.b, L.base + o * ks'.length, none⟩ (Builtin.zeroCells z.cells len).toList).run P w = .ok () w' →
                  (Builtin.clear_ #[t] ty #[.slice (some ⟨L.b, L.base + o * ks'.length, none⟩) len cap]).run P w = .ok (.tuple #[]) w' := by
                intro w' hst
                obtain ⟨len', rfl⟩ : ∃ len', len = len' + 1 := ⟨len - 1, by omega⟩
                simp [Builtin.clear_, run_underlying hu, zeroValue, typeInfo, hi, hz, hst]
              rcases Nat.eq_zero_or_pos (len * ks'.length) with hzero | hpos2
              · obtain ⟨w', φ', rfl, r1, r2, r3⟩ := stay
                have e0 : (Builtin.zeroCells z.cells len).toList = [] := List.length_eq_zero_iff.1 (by rw [hzz.1, hzero])
                exact ⟨_, w', φ', hclear (by rw [e0]; simp [storeCells]), r1, r2, r3⟩
              · have hle1 : (o + len) * ks'.length ≤ (o + cap) * ks'.length := Nat.mul_le_mul_right _ (by omega)
                have hadd : (o + len) * ks'.length = o * ks'.length + len * ks'.length := Nat.add_mul _ _ _
                rcases hreal with hz0 | ⟨cs, ct, fr, hcs, hcsz, hown, hrows⟩
                · omega
                obtain ⟨hb0, hfr⟩ := hown rfl
                subst hfr
                have hst := run_storeCells_at P L.b (o * ks'.length) ct (Builtin.zeroCells z.cells len).toList 0 cs w hcs (by rw [hzz.1]; omega) hzz.one
                rw [Nat.add_zero] at hst
                have hnew := setRow_heap w L.b cs (cs.toList.take (o * ks'.length) ++ (Builtin.zeroCells z.cells len).toList ++ cs.toList.drop (o * ks'.length + (Builtin.zeroCells z.cells len).toList.length)).toArray ct (0, 0) hcs
                have hzl := hzz.1
                generalize (Builtin.zeroCells z.cells len).toList = zs at *
                obtain ⟨r1, r2⟩ := rep_setW (w := w) (B' := .rows ks' n g true) (w' := w.setRow L.b (cs.toList.take (o * ks'.length) ++ zs ++ cs.toList.drop (o * ks'.length + zs.length)).toArray) rfl rfl rfl hrep (blk_some hblk) hL rfl (fun _ h => h) (by simp [World.setRow])
                  (fun k hk _ => setRow_other w L.b k _ (fun e => hk ⟨by omega, e.symm⟩))
                  ⟨hLn, hnsz, .inr ⟨_, ct, (0, 0), hnew, by simp [hzl]; omega, fun _ => ⟨hb0, rfl⟩, fun j c sk hj hc => by
                    have hcl := get_lt hc
                    obtain ⟨u, q1, q2⟩ := hrows j c sk hj hc
                    rw [hb0, Nat.zero_add] at q1
                    refine ⟨u, ?_, q2⟩
                    rw [hb0, Nat.zero_add, List.getElem?_toArray]
                    have hge : (j + 1) * ks'.length ≤ o * ks'.length := Nat.mul_le_mul_right _ (by omega)
                    have hadd2 : (j + 1) * ks'.length = j * ks'.length + ks'.length := by rw [Nat.add_mul]; omega
                    have htl : (cs.toList.take (o * ks'.length)).length = o * ks'.length := by simp; omega
                    rw [List.getElem?_append_left (by rw [List.length_append, htl]; omega), List.getElem?_append_left (by omega), List.getElem?_take, if_pos (by omega), Array.getElem?_toList]
                    exact q1⟩⟩
                exact ⟨_, _, _, hclear (by rw [hb0, Nat.zero_add]; exact hst), ⟨#[], rfl, trivial⟩, r1, r2⟩
        · cases h
      · cases h
    · cases h
  · cases h
end
end Go.AM
