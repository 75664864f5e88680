/-
  The abstract machine, part 25: a law's arguments, slices among them.
-/
import Derived.Test.YthgagehgiooklaaAn4ToAn8
import Derived.Deep.Slices
import Derived.SizedLaws
section
namespace Go.AM
open Go.RowKit Go.ChangeShapes Go.WideShapes

theorem valsK_get : ∀ {ks : List SK} {xs : List Int} {c : Nat} {k : SK}, xs.length = ks.length → ks[c]? = some k → (valsK ks xs)[c]? = some (valS k (xs.getD c 0))
  | k :: ks, x :: xs, 0, k', _, h => by simp at h; subst h; rfl
  | k :: ks, x :: xs, c + 1, k', hl, h => by simpa [valsK] using valsK_get (by simpa using hl) (by simpa using h)
  | [], _, c, _, _, h => by simp at h
  | _ :: _, [], _, _, hl, _ => by simp at hl

section
variable {P : Program} {H : Type} {enc : TypeId × Value → H}

theorem cell_at {W : World} {a : Addr} {i : Nat} {v : Value} (h : W.cell? (a.add i) = some v) (hs : a.spot = none) : ∃ cs t fr, W.heap[a.block]? = some (.cells cs t fr) ∧ cs[a.off + i]? = some v := by
  have e : a.add i = ⟨a.block, a.off + i, none⟩ := by
    unfold Addr.add
    obtain ⟨b, o, s⟩ := a
    simp only at hs
    subst hs
    by_cases h0 : i = 0
    · subst h0; simp
    · simp [h0]
  rw [e] at h
  unfold World.cell? at h
  split at h
  · rename_i c t fr hc
    exact ⟨c, t, fr, hc, by simpa using h⟩
  · cases h

/-- A law's slice of flat elements: rows that are only read. -/
theorem open_rows {W : World} {base base' : Nat} {held : Bool} {t e : TypeId} {ks : List SK} {v : Value} {dd : DataW H} {ps : List MemPlace} {n : Nat} (hu : P.underlying t = some (.slice e)) (hk : flatK P n e = some ks) (hlen : ks.length = P.cellsOf e) (h1 : ks ≠ [])
    (hok : Value.okWide P W .any base' t v) (ht : DataW.Trod enc P W base (fun _ => true) held t v dd ps) :
    ∃ (m : Nat) (g : Nat → Nat → Int) (L : Loc), m ≤ maxLen ∧ (∀ (i c : Nat) k, i < m → ks[c]? = some k → wfS k (g i c)) ∧ L.n = m ∧ (∀ φ, RepB φ L W.heap (.rows ks m g false)) ∧ ∀ (φ : Phi) (id : Nat), φ[id]? = some L → relS φ (.slq id ks.length 0 L.n) v := by
  obtain ⟨a, len, cap, rfl⟩ := okWide_slice hu hok
  obtain ⟨fuel, hf⟩ := ht
  have hf : DataW.trod enc P W base (fun _ => true) held fuel t [.slice a len cap] = some (dd, ps) := hf
  rcases Go.Deep.open_slice hu hf with ⟨h0, _⟩ | ⟨a', len', cap', m, nn, D, Pl, hc, hb, hl, hmx, hm, _, hx⟩
  · simp only [List.cons.injEq, Value.slice.injEq, and_true] at h0
    obtain ⟨rfl, rfl, rfl⟩ := h0
    exact ⟨0, fun _ _ => 0, ⟨0, 0, 0, 0, .nil⟩, Nat.zero_le _, fun i c k hi => by omega, rfl, fun φ => ⟨rfl, by simp, .inl rfl⟩, fun φ id _ => .inl ⟨rfl, none, rfl⟩⟩
  · simp only [List.cons.injEq, Value.slice.injEq, and_true] at hc
    obtain ⟨rfl, rfl, rfl⟩ := hc
    simp only [if_true] at hm
    obtain rfl : m = cap := hm
    clear hf
    have hk1 : 0 < ks.length := List.length_pos_iff.2 h1
    obtain ⟨f, hf'⟩ := Go.Deep.choose_lt (α := List Int) (n := m) (p := fun i xs => W.cells? base (a'.add (i * P.cellsOf e)) (P.cellsOf e) = some (valsK ks xs) ∧ wfsK ks xs) (fun i hi => by
      obtain ⟨cs', h2, h3⟩ := hx i hi
      obtain ⟨xs, e1, e2⟩ := trod_flat n e ks _ _ _ hk h3
      exact ⟨xs, by rw [h2, e1], e2⟩)
    rcases Nat.eq_zero_or_pos m with h0 | hcap
    · subst h0
      have : len = 0 := by omega
      subst this
      exact ⟨0, fun _ _ => 0, ⟨0, 0, 0, 0, .nil⟩, Nat.zero_le _, fun i c k hi => by omega, rfl, fun φ => ⟨rfl, by simp, .inl rfl⟩, fun φ id _ => .inl ⟨rfl, some a', rfl⟩⟩
    · have hcell : ∀ i c k, i < m → ks[c]? = some k → W.cell? ((a'.add (i * ks.length)).add c) = some (valS k ((f i).getD c 0)) := by
        intro i c k hi hc
        obtain ⟨g1, g2⟩ := hf' i hi
        rw [← hlen] at g1
        obtain ⟨_, g3, g4⟩ := World.cells?_some g1
        rw [g4 c (get_lt hc)]
        exact valsK_get g2.length hc
      have hspot : a'.spot = none := by
        have := hcell 0 0 ks[0] hcap (List.getElem?_eq_getElem hk1)
        simp only [Nat.zero_mul, Addr.add, if_true] at this
        unfold World.cell? at this
        split at this
        · split at this
          · cases this
          · rename_i hs
            simpa using hs
        · cases this
      have hat : ∀ i c k, i < m → ks[c]? = some k → ∃ cs t fr, W.heap[a'.block]? = some (.cells cs t fr) ∧ cs[a'.off + (i * ks.length + c)]? = some (valS k ((f i).getD c 0)) := by
        intro i c k hi hc
        have := hcell i c k hi hc
        rw [Go.Deep.add_add] at this
        exact cell_at this hspot
      obtain ⟨cs, ty, fr, hcs, _⟩ := hat 0 0 ks[0] hcap (List.getElem?_eq_getElem hk1)
      have hat' : ∀ i c k, i < m → ks[c]? = some k → cs[a'.off + (i * ks.length + c)]? = some (valS k ((f i).getD c 0)) := by
        intro i c k hi hc
        obtain ⟨cs', ty', fr', h2, h3⟩ := hat i c k hi hc
        rw [hcs] at h2
        cases h2
        exact h3
      refine ⟨len, fun i c => (f i).getD c 0, ⟨a'.block, a'.off, len * ks.length, len, .nil⟩, by omega, fun i c k hi hc => wfsK_at (hf' i (by omega)).2 hc, rfl, fun φ => ⟨rfl, Nat.le_refl _, ?_⟩, fun φ id hφ => ?_⟩
      · rcases Nat.eq_zero_or_pos (len * ks.length) with hz | hp
        · exact .inl hz
        · refine .inr ⟨cs, ty, fr, hcs, ?_, (fun h => by cases h), fun i c sk hi hc => ⟨_, hat' i c sk (by omega) hc, relS_mkS φ sk _⟩⟩
          have hl0 : 0 < len := Nat.pos_of_mul_pos_right hp
          have := hat' (len - 1) (ks.length - 1) ks[ks.length - 1] (by omega) (List.getElem?_eq_getElem (by omega))
          have hlt := (Array.getElem?_eq_some_iff.1 this).1
          have : (len - 1) * ks.length + ks.length = len * ks.length := by
            rw [Nat.sub_mul, Nat.one_mul]
            have : ks.length ≤ len * ks.length := Nat.le_mul_of_pos_left _ hl0
            omega
          simp only
          omega
      · obtain ⟨bl, of, sp⟩ := a'
        simp only at hspot
        subst hspot
        exact .inr ⟨_, m, hφ, hl, by simp, by simp⟩
end

/-! ### memory that is only read -/

theorem rep_ro_nil (heap : Array Obj) : Rep [] [] heap := ⟨rfl, fun id B h => by simp at h, fun id id' B B' L L' b h => by simp at h⟩

theorem rep_ro_snoc {φ : Phi} {H : AH} {heap : Array Obj} {L : Loc} {B : Blk} (h : Rep φ H heap) (hH : ∀ (id : Nat) C, H[id]? = some (some C) → C.mut = false) (hB : ∀ φ, RepB φ L heap B) (hm : B.mut = false) :
    Rep (φ ++ [L]) (H ++ [some B]) heap ∧ ∀ (id : Nat) C, (H ++ [some B])[id]? = some (some C) → C.mut = false := by
  have hmut : ∀ (id : Nat) C, (H ++ [some B])[id]? = some (some C) → C.mut = false := by
    intro id C hC
    rcases get_push hC with ⟨_, hC'⟩ | ⟨_, rfl⟩
    · exact hH id C hC'
    · exact hm
  refine ⟨⟨by simp [h.len], ?_, ?_⟩, hmut⟩
  · intro id C hC
    rcases get_push hC with ⟨hlt, hC'⟩ | ⟨rfl, rfl⟩
    · obtain ⟨L', h1, h2⟩ := h.blk id C hC'
      exact ⟨L', get_prefix h1, h2.mono _⟩
    · exact ⟨L, by rw [← h.len]; simp, hB _⟩
  · intro id id' C C' L1 L2 b h1 _ _ _ _ hmC
    rw [hmut id C h1] at hmC
    cases hmC

section
variable {P : Program} {Γ : Specs} {sy : Nat → Option Nat} {Lp : Loops} {fuel : Nat}

/-- A call of a law that comes to 'true', from memory that is only read. -/
theorem calls_law (hΓ : SpecOK P Γ) (hm : P.follows .mixedOrders = true) {f : FuncId} {fn : Func} (hf : P.funcs[f]? = some fn) (ish : FSh) (hro : (ish.hp.all fun b => !b.mut) = true) (hL : LoopsFn P ish.hp.length Lp fn) {l : List At}
    {T : Tr (List At)} (e : (call P Γ sy Lp fuel fn (mkV ish l) (mkH ish l)).bind (leafO ish.hp.length ⟨[.v false [.k .b]], List.replicate ish.hp.length .no⟩) = T) (hT : T.sat fun r => r = [.b true])
    {φ0 : Phi} {W : World} {args : List Value} (hrep : Rep φ0 (mkH ish l) W.heap) (hargs : All2 (relT φ0) (mkV ish l) args) :
    Calls P f args.toArray W fun e W' => e = .returned (.bool true) ∧ Below W.heap.size W W' := by
  obtain ⟨r, hr, rfl⟩ := hT
  refine (calls_loc hΓ hm hf ish ⟨[.v false [.k .b]], List.replicate ish.hp.length .no⟩ hL (l := l) (r := [.b true]) ⟨_, by rw [e]; exact hr, AtsEq.refl _⟩ hrep hargs).mono ?_
  rintro e w' ⟨v, φ2, rfl, g1, g2, g3, g4⟩
  have hv : v = .bool true := g1.1
  subst hv
  refine ⟨rfl, g3.os, g3.tape, g3.output, g3.size, fun b hb => g3.frame b hb fun id B L h1 h2 h3 h4 => ?_⟩
  obtain ⟨bb, k1, k2⟩ := mkBs_mut h1
  have := List.all_eq_true.1 hro bb (List.mem_of_getElem? k1)
  rw [k2, h2] at this
  cases this
end
end Go.AM
end

/-
  A law whose slices are told to take no more than all addresses: for laws that copy what they are handed.
-/
section
namespace Go.AM
open Go.ChangeShapes Go.WideShapes Go.ChangeAt Go.RowKit
section
variable {P : Program} {H : Type} {enc : TypeId × Value → H}
theorem law_lifted_sized {C : Checked} {os : Os} {f : FuncId} {fn : Func} {s : ChangeSpec} {tb : TypeId} (own : ownKnob C.prog.godebug = none) (started : os.Started) (noInit : C.prog.inits.idxOf? f = none) (hfn : C.prog.funcs[f]? = some fn)
    (hl : laidOutB C.prog = true) (hps : (fn.params.toList.all fun t => C.prog.readableRec t && decide (t < C.prog.types.size)) = true) (hres : fn.resultTypes = #[tb]) (hub : C.prog.underlying tb = some .bool) (hv : s.vars = [])
    (hs : ∀ (ds : List (DataW H)), ds.length = fn.params.toList.length → s.fn H ds = { results := [.lit (.bool true)], args := ds })
    (witness : ∃ (w : World) (tape : Tape) (i : Input), w.os = os ∧ (w.forCall tape i).Shaped C.prog ∧ i.vars = [] ∧ Input.okWide C.prog (w.forCall tape i) .any w.heap.size f i ∧
      s.pre6 enc C.prog fn [] false (w.forCall tape i).memory i.args ∧ ({} : Assume).holds C.prog (lone (Frame.enter C.prog f i.args .normal) [] (w.forCall tape i)))
    (hcall : ∀ (W : World) (base : Nat) (args : List Value) (ds : List (DataW H)) (ps : List MemPlace), (∀ (j : Nat) t v, fn.params.toList[j]? = some t → args[j]? = some v → Value.okWide C.prog W .any base t v) →
      DataW.TrodAll enc C.prog W 0 (fun _ => true) true fn.params.toList args ds ps → (∀ (j : Nat) (t e : TypeId) (E S : List (DataW H)), fn.params.toList[j]? = some t → ds[j]? = some (.slice E S) → C.prog.underlying t = some (.slice e) → (E.length + S.length) * C.prog.bytesOf e ≤ reachBytes) → Calls C.prog f args.toArray W fun e W' => e = .returned (.bool true) ∧ Below W.heap.size W W') :
    ReturnsInHanded {} C os f .any (s.pre6 enc C.prog fn [] false) (s.post enc C.prog fn false true false false) := by
  refine returnsInHanded_of_change_sized (C := C) own started noInit hfn witness ?_
  intro W base args ds gs before hval hW hcnd hsz _
  have hW' := hW
  obtain ⟨p, q, hA, hV, hpq, hfz, hnd⟩ := hW
  rw [hv] at hV
  obtain ⟨rfl, rfl⟩ := trodVars_none hV
  simp only [List.append_nil] at hpq
  subst hpq
  have hlt : ∀ x ∈ before, x.block < W.heap.size := fun x hx => by simpa using hW'.lt x hx
  have hts : ∀ t ∈ fn.params.toList, C.prog.readableRec t = true ∧ t < C.prog.types.size := by
    intro t ht
    have := List.all_eq_true.1 hps t ht
    simpa using this
  obtain ⟨hdl, hal⟩ := trodAll_len hA
  have hc := hcall W base args.toList ds before (fun j t v h1 h2 => hval j t v (by simpa using h1) (by simpa using h2)) hA (fun j t e E S h1 h2 h3 => sized_slice hsz (j := j) (by rw [List.getElem?_append_left (List.getElem?_eq_some_iff.1 h1).1]; exact h1) (by simpa using h2) h3)
  rw [Array.toArray_toList] at hc
  refine hc.mono fun e W' ⟨he, hb⟩ => ⟨.bool true, he, ?_⟩
  have hsd : s.fn H (ds ++ []) = { results := [.lit (.bool true)], args := ds } := by rw [List.append_nil]; exact hs ds hdl
  have hold : ∀ p ∈ before, (fun b => decide (b < W.heap.size)) p.block = true := fun p hp => by simpa using hlt p hp
  refine ⟨ds, [], before, [], before, [], hW', ?_, ?_, ?_, keptBut_of_below hb _, fun h => by cases h⟩
  · rw [hsd, hres]
    exact trodAll_mk1 (shut_bool hub _)
  · rw [hsd]
    exact trodAll_stays hl hb hts hA hlt hold
  · rw [hsd, hv]
    rfl
end

/-- A law's slice of flat elements, with its size. -/
theorem open_rows_sized {H : Type} {enc : TypeId × Value → H} {P : Program} {W : World} {base base' : Nat} {t e : TypeId} {ks : List SK} {v : Value} {dd : DataW H} {ps : List MemPlace} {n : Nat} (hu : P.underlying t = some (.slice e)) (hk : flatK P n e = some ks) (hlen : ks.length = P.cellsOf e) (h1 : ks ≠ [])
    (hok : Value.okWide P W .any base' t v) (ht : DataW.Trod enc P W base (fun _ => true) true t v dd ps) (hz : ∀ E S : List (DataW H), dd = .slice E S → (E.length + S.length) * P.bytesOf e ≤ reachBytes) :
    ∃ (m : Nat) (g : Nat → Nat → Int) (L : Loc), m ≤ maxLen ∧ (∀ (i c : Nat) k, i < m → ks[c]? = some k → wfS k (g i c)) ∧ L.n = m ∧ (∀ φ, RepB φ L W.heap (.rows ks m g false)) ∧ (∀ (φ : Phi) (id : Nat), φ[id]? = some L → relS φ (.slq id ks.length 0 L.n) v) ∧ m * P.bytesOf e ≤ reachBytes := by
  obtain ⟨m, g, L, q1, q2, q3, q4, q5⟩ := open_rows hu hk hlen h1 hok ht
  refine ⟨m, g, L, q1, q2, q3, q4, q5, ?_⟩
  have hr := q5 [L] 0 rfl
  obtain ⟨fuel, hf⟩ := ht
  obtain ⟨a, len, cap, rfl⟩ := okWide_slice hu hok
  have hf : DataW.trod enc P W base (fun _ => true) true fuel t [.slice a len cap] = some (dd, ps) := hf
  have hm : m = len := by
    rcases hr with ⟨h0, a', he⟩ | ⟨L', cap', hL, _, _, he⟩
    · cases he; omega
    · simp only [Value.slice.injEq] at he
      obtain ⟨_, e2, _⟩ := he
      omega
  subst hm
  rcases Go.Deep.open_slice hu hf with ⟨h0, _⟩ | ⟨a', len', cap', m', nn, D, Pl, hc, hb, hl, hmx, hm, hd, hx⟩
  · simp only [List.cons.injEq, Value.slice.injEq, and_true] at h0
    obtain ⟨_, rfl, _⟩ := h0
    simp
  · simp only [List.cons.injEq, Value.slice.injEq, and_true] at hc
    obtain ⟨_, rfl, _⟩ := hc
    simp only [Prod.mk.injEq] at hd
    have := hz _ _ hd.1
    simp only [List.length_map, List.length_range] at this
    exact Nat.le_trans (Nat.mul_le_mul (Nat.le_add_right _ _) (Nat.le_refl _)) this
end Go.AM
end

/-
  The abstract machine, part 25: a loop's round, told by what each of its ways comes to.
-/
section
namespace Go.AM

theorem AtEq.symm {a b : At} (h : AtEq a b) : AtEq b a := by
  cases a <;> cases b <;> first
    | exact Eq.symm h
    | exact ⟨h.1.symm, fun i hi c => (h.2 i (h.1 ▸ hi) c).symm⟩
    | (obtain ⟨rfl, rfl, rfl, h4, h5⟩ := h
       exact ⟨rfl, rfl, rfl, fun i hi c => (h4 i hi c).symm, fun i hi k hk => (h5 i hi k (by rw [h4 i hi]; exact hk)).symm⟩)
theorem AtEq.trans {a b c : At} (h : AtEq a b) (k : AtEq b c) : AtEq a c := by
  cases a <;> cases b <;> cases c <;> first
    | exact Eq.trans h k
    | (cases h; done)
    | (cases k; done)
    | exact ⟨h.1.trans k.1, fun i hi c => (h.2 i hi c).trans (k.2 i (h.1 ▸ hi) c)⟩
    | (obtain ⟨rfl, rfl, rfl, h4, h5⟩ := h
       obtain ⟨rfl, rfl, rfl, k4, k5⟩ := k
       exact ⟨rfl, rfl, rfl, fun i hi c => (h4 i hi c).trans (k4 i hi c), fun i hi k hk => (h5 i hi k hk).trans (k5 i hi k (by rw [← h4 i hi]; exact hk))⟩)
theorem AtsEq.trans : ∀ {l m n : List At}, AtsEq l m → AtsEq m n → AtsEq l n
  | [], [], [], _, _ => trivial
  | _ :: _, _ :: _, _ :: _, h, k => ⟨h.1.trans k.1, AtsEq.trans h.2 k.2⟩
  | [], _ :: _, _, h, _ => h.elim
  | _ :: _, [], _, h, _ => h.elim
  | _, [], _ :: _, _, k => k.elim
  | _, _ :: _, [], _, k => k.elim

/-- One round, way by way: on with less, to the same end; or out. -/
def RoundS (B O : List At → Tr (Ex × List At)) (μ : List At → Nat) (l : List At) (r : Ex × List At) : Prop :=
  (B l).sat fun p => (p.1 = .normal ∧ ∃ l2 r', AtsEq p.2 l2 ∧ μ l2 < μ l ∧ (O l2).val = some r' ∧ r'.1 = r.1 ∧ AtsEq r'.2 r.2) ∨ (p.1 ≠ .normal ∧ r.1 = p.1 ∧ AtsEq p.2 r.2)

theorem on_ {O : List At → Tr (Ex × List At)} {μ : List At → Nat} {l l1 : List At} {r : Ex × List At} (l2 : List At) (r' : Ex × List At) (h : AtsEq l1 l2) (hμ : μ l2 < μ l) (hO : (O l2).val = some r') (he : r'.1 = r.1) (hr : AtsEq r'.2 r.2) :
    (Tr.ok (Ex.normal, l1)).sat fun p => (p.1 = .normal ∧ ∃ l2 r', AtsEq p.2 l2 ∧ μ l2 < μ l ∧ (O l2).val = some r' ∧ r'.1 = r.1 ∧ AtsEq r'.2 r.2) ∨ (p.1 ≠ .normal ∧ r.1 = p.1 ∧ AtsEq p.2 r.2) :=
  Tr.sat_ok.2 (.inl ⟨rfl, l2, r', h, hμ, hO, he, hr⟩)

theorem out_ {O : List At → Tr (Ex × List At)} {μ : List At → Nat} {l l1 : List At} {e : Ex} {r : Ex × List At} (hn : e ≠ .normal) (he : r.1 = e) (hr : AtsEq l1 r.2) :
    (Tr.ok (e, l1)).sat fun p => (p.1 = .normal ∧ ∃ l2 r', AtsEq p.2 l2 ∧ μ l2 < μ l ∧ (O l2).val = some r' ∧ r'.1 = r.1 ∧ AtsEq r'.2 r.2) ∨ (p.1 ≠ .normal ∧ r.1 = p.1 ∧ AtsEq p.2 r.2) :=
  Tr.sat_ok.2 (.inr ⟨hn, he, hr⟩)

section
variable {P : Program} {Γ : Specs} {sy : Nat → Option Nat} {Lp : Loops} {fuel : Nat}

theorem loop_sat (hΓ : SpecOK P Γ) (hm : P.follows .mixedOrders = true) {k : Nat} {c : Code} (hL : LoopsOK P k Lp c) {lsh : FSh} {xs : Exs} (hx : xs .normal = some lsh) {Bd O : List At → Tr (Ex × List At)} {μ : List At → Nat}
    (eB : ∀ l, (exec P Γ sy Lp fuel c ⟨mkV lsh l, mkH lsh l⟩).bind (leafL k xs) = Bd l) (h : ∀ l r, (O l).val = some r → RoundS Bd O μ l r) : LoopF P k c (loopFn k lsh xs O) := by
  intro s r hr B φ a w Q hI hE hQ
  unfold loopFn at hr
  split at hr
  · rename_i σ l ht
    rw [Tr.val_bind] at hr
    obtain ⟨⟨e, l'⟩, hO, hr⟩ := Option.bind_eq_some_iff.1 hr
    split at hr
    · rename_i sh hsh
      have := val_ok hr
      subst this
      obtain ⟨φ1, i1, i2⟩ := inv_take B hI hE ht (AtsEq.refl l)
      have key : ∀ (m : Nat) (l1 : List At) (r1 : Ex × List At) (φ' : Phi) (a' : Act) (w' : World), μ l1 < m → (O l1).val = some r1 → r1.1 = e → AtsEq r1.2 l' → Inv φ' ⟨mkV lsh l1, mkH lsh l1⟩ a' w' → Ext B.φ B.H B.w φ' (mkH lsh l1) w' →
          ∀ (b : Frame) (kk : List Item) (cs : List Frame), ∃ e2 a2 w2, Q e2 a2 w2 ∧ Arrives P (lone (b.at a' (.code c :: .inLoop c :: kk)) cs w') b kk cs e2 a2 w2 := by
        intro m
        induction m with
        | zero => intro l1 r1 φ' a' w' hm; omega
        | succ m ih =>
          intro l1 rr φ' a' w' hm1 hO1 he1 hl1 hI' hE' b kk cs
          have body : ∀ {r1 : Ex × List At}, (Bd l1).val = some r1 → ∃ r2 : Ex × ASt, (exec P Γ sy Lp fuel c ⟨mkV lsh l1, mkH lsh l1⟩).val = some r2 ∧ r2.1 = r1.1 ∧ ∃ sh1 σ1 H2, xs r1.1 = some sh1 ∧ Words r2.2.hp H2 ∧ takeF k sh1 r2.2.tm H2 = some (σ1, r1.2) := by
            intro r1 hr1
            rw [← eB l1, Tr.val_bind] at hr1
            obtain ⟨r2, g1, g2⟩ := Option.bind_eq_some_iff.1 hr1
            exact ⟨r2, g1, leafL_val g2⟩
          obtain ⟨⟨e1, l2⟩, g1, hcase⟩ := h l1 rr hO1
          rcases hcase with ⟨h1, l3, r3, g2, g3, g4, g5, g6⟩ | ⟨hne, g3, g4⟩
          · simp only at h1 g2
            subst h1
            obtain ⟨⟨re, rs⟩, q1, q2, sh1, σ1, H2, q3, qw, q4⟩ := body g1
            simp only at q2 q3 q4
            subst q2
            rw [hx] at q3
            cases q3
            have hg := exec_goes hΓ hm c hL _ _ q1
            have hw := hg B φ' a' w' (fun e2 a2 w2 => e2 = .normal ∧ ∃ φ2, Inv φ2 rs a2 w2 ∧ Ext B.φ B.H B.w φ2 rs.hp w2) hI' hE' (fun φ2 a2 w2 i1 i2 => ⟨rfl, φ2, i1, i2⟩)
            obtain ⟨e2, a2, w2, ⟨rfl, φ2, j1, j2⟩, harr⟩ := hw b (.inLoop c :: kk) cs
            obtain ⟨φ3, j3, j4⟩ := inv_takeW B j1 j2 qw q4 g2
            obtain ⟨e3, a3, w3, hq3, harr3⟩ := ih l3 r3 φ3 a2 w2 (by omega) g4 (g5.trans he1) (g6.trans hl1) j3 j4 b kk cs
            exact ⟨e3, a3, w3, hq3, .of_steps (Steps.trans harr (.one step_inLoop)) harr3⟩
          · simp only at hne g3 g4
            obtain ⟨⟨re, rs⟩, q1, q2, sh1, σ1, H2, q3, qw, q4⟩ := body g1
            simp only at q2 q3 q4
            subst q2
            rw [he1] at g3
            subst g3
            rw [hsh] at q3
            cases q3
            have hg := exec_goes hΓ hm c hL _ _ q1
            have hw := hg B φ' a' w' (fun e2 a2 w2 => e2 = e.toExit ∧ Q e2 a2 w2) hI' hE' (fun φ2 a2 w2 i1 i2 => by
              obtain ⟨φ3, j3, j4⟩ := inv_takeW B i1 i2 qw q4 (g4.trans hl1)
              exact ⟨rfl, hQ φ3 a2 w2 j3 j4⟩)
            obtain ⟨e2, a2, w2, ⟨rfl, hq⟩, harr⟩ := hw b (.inLoop c :: kk) cs
            have hne' : e.toExit ≠ .normal := by
              cases e with
              | normal => exact absurd rfl hne
              | exit id => simp [Ex.toExit]
              | ret => simp [Ex.toExit]
            refine ⟨_, a2, w2, hq, .pass (x := .inLoop c) ?_ (fun _ _ => .inl hne') harr⟩
            cases e <;> first
              | exact absurd rfl hne
              | rfl
      intro b kk cs
      obtain ⟨e2, a2, w2, hq, harr⟩ := key (μ l + 1) l (e, l') φ1 a w (by omega) hO rfl (AtsEq.refl _) i1 i2 b kk cs
      exact ⟨e2, a2, w2, hq, .of_steps (.one step_loop) harr⟩
    · simp [Tr.val] at hr
  · simp [Tr.val] at hr
end

/-! ### what stands in a tree's result -/

theorem fine_of_val {α : Type} {T : Tr α} {r : α} (h : T.val = some r) : T.fine = true := by
  induction T with
  | ok a => rfl
  | br g c t e iht ihe => cases c <;> simp only [Tr.val] at h <;> simp only [Tr.fine, cond_true, cond_false] <;> first | exact iht h | exact ihe h
  | no => cases h
theorem fine_of_sat {α : Type} {T : Tr α} {Q : α → Prop} (h : T.sat Q) : T.fine = true := let ⟨_, h1, _⟩ := h; fine_of_val h1
theorem aI_of_val {i : Nat} {T : Tr (List At)} {r : List At} (h : T.val = some r) : T.aI i = AM.aI r i := by
  induction T with
  | ok a => cases h; rfl
  | br g c t e iht ihe => cases c <;> simp only [Tr.val] at h <;> simp only [Tr.aI, cond_true, cond_false] <;> first | exact iht h | exact ihe h
  | no => cases h
theorem aB_of_val {i : Nat} {T : Tr (List At)} {r : List At} (h : T.val = some r) : T.aB i = AM.aB r i := by
  induction T with
  | ok a => cases h; rfl
  | br g c t e iht ihe => cases c <;> simp only [Tr.val] at h <;> simp only [Tr.aB, cond_true, cond_false] <;> first | exact iht h | exact ihe h
  | no => cases h

section
variable {α : Type} {i : Nat} {c : Bool} {t e : Tr α} {Q : α → Prop}
theorem brT (h : c = true) (ht : t.sat Q) : (Tr.br i c t e).sat Q := by
  obtain ⟨r, h1, h2⟩ := ht
  exact ⟨r, (br_t h).trans h1, h2⟩
theorem brF (h : c = false) (ht : e.sat Q) : (Tr.br i c t e).sat Q := by
  obtain ⟨r, h1, h2⟩ := ht
  exact ⟨r, (br_f h).trans h1, h2⟩
theorem brD {p : Prop} [Decidable p] (ht : p → t.sat Q) (he : ¬ p → e.sat Q) : (Tr.br i (decide p) t e).sat Q := Tr.sat_br.2 ⟨fun h => ht (of_decide_eq_true h), fun h => he (of_decide_eq_false h)⟩
theorem brND {p : Prop} [Decidable p] (ht : ¬ p → t.sat Q) (he : p → e.sat Q) : (Tr.br i (!decide p) t e).sat Q := Tr.sat_br.2 ⟨fun h => ht (of_decide_eq_false (by simpa using h)), fun h => he (of_decide_eq_true (by simpa using h))⟩
theorem brQ {x y : Int} (ht : x = y → t.sat Q) (he : x ≠ y → e.sat Q) : (Tr.br i (x == y) t e).sat Q := Tr.sat_br.2 ⟨fun h => ht (by simpa using h), fun h => he (by simpa using h)⟩
theorem brNQ {x y : Int} (ht : x ≠ y → t.sat Q) (he : x = y → e.sat Q) : (Tr.br i (!(x == y)) t e).sat Q := Tr.sat_br.2 ⟨fun h => ht (by simpa using h), fun h => he (by simpa using h)⟩
theorem brNE {x y : Int} (ht : x ≠ y → t.sat Q) (he : x = y → e.sat Q) : (Tr.br i (x != y) t e).sat Q := Tr.sat_br.2 ⟨fun h => ht (by simpa using h), fun h => he (by simpa using h)⟩
theorem brW {x : Int} {n : Nat} (ht : 0 ≤ x ∧ x < (n : Int) → t.sat Q) (he : ¬ (0 ≤ x ∧ x < (n : Int)) → e.sat Q) : (Tr.br i (within x n) t e).sat Q :=
  Tr.sat_br.2 ⟨fun h => ht (by simpa [within] using h), fun h => he (fun hh => by simp [within, hh] at h)⟩
theorem brN {b : Bool} (ht : b = false → t.sat Q) (he : b = true → e.sat Q) : (Tr.br i (!b) t e).sat Q := Tr.sat_br.2 ⟨fun h => ht (by simpa using h), fun h => he (by simpa using h)⟩
theorem brC (ht : c = true → t.sat Q) (he : c = false → e.sat Q) : (Tr.br i c t e).sat Q := Tr.sat_br.2 ⟨ht, he⟩
end
end Go.AM
end
