/-
  The abstract machine, part 25: a law's arguments, slices among them.
-/
import Derived.Test.YtepdekambalmhaaAn8
import Derived.Deep.Slices
namespace Go.AM
open Go.RowKit Go.ChangeShapes Go.WideShapes

theorem valsK_get : ∀ {ks : List SK} {xs : List Int} {c : Nat} {k : SK}, xs.length = ks.length → ks[c]? = some k → (valsK ks xs)[c]? = some (valS k (xs.getD c 0))
  | k :: ks, x :: xs, 0, k', _, h => by simp at h; subst h; rfl
  | k :: ks, x :: xs, c + 1, k', hl, h => by simpa [valsK] using valsK_get (by simpa using hl) (by simpa using h)
  | [], _, c, _, _, h => by simp at h
  | _ :: _, [], _, _, hl, _ => by simp at hl

section
variable {P : Program} {H : Type} {enc : TypeId × Value → H}

theorem cell_at {W : World} {a : Addr} {i : Nat} {v : Value} (h : W.cell? (a.add i) = some v) (hs : a.spot = none) : ∃ cs t fr, W.heap[a.block]? = some (.cells cs t fr) ∧ cs[a.off + i]? = some v := by
  have e : a.add i = ⟨a.block, a.off + i, none⟩ := by
    unfold Addr.add
    obtain ⟨b, o, s⟩ := a
    simp only at hs
    subst hs
    by_cases h0 : i = 0
    · subst h0; simp
    · simp [h0]
  rw [e] at h
  unfold World.cell? at h
  split at h
  · rename_i c t fr hc
    exact ⟨c, t, fr, hc, by simpa using h⟩
  · cases h

/-- A law's slice of flat elements: rows that are only read. -/
theorem open_rows {W : World} {base base' : Nat} {held : Bool} {t e : TypeId} {ks : List SK} {v : Value} {dd : DataW H} {ps : List MemPlace} {n : Nat} (hu : P.underlying t = some (.slice e)) (hk : flatK P n e = some ks) (hlen : ks.length = P.cellsOf e) (h1 : ks ≠ [])
    (hok : Value.okWide P W .any base' t v) (ht : DataW.Trod enc P W base (fun _ => true) held t v dd ps) :
    ∃ (m : Nat) (g : Nat → Nat → Int) (L : Loc), m ≤ maxLen ∧ (∀ (i c : Nat) k, i < m → ks[c]? = some k → wfS k (g i c)) ∧ L.n = m ∧ (∀ φ, RepB φ L W.heap (.rows ks m g false)) ∧ ∀ (φ : Phi) (id : Nat), φ[id]? = some L → relS φ (.slq id ks.length 0 L.n) v := by
  obtain ⟨a, len, cap, rfl⟩ := okWide_slice hu hok
  obtain ⟨fuel, hf⟩ := ht
  have hf : DataW.trod enc P W base (fun _ => true) held fuel t [.slice a len cap] = some (dd, ps) := hf
  rcases Go.Deep.open_slice hu hf with ⟨h0, _⟩ | ⟨a', len', cap', m, nn, D, Pl, hc, hb, hl, hmx, hm, _, hx⟩
  · simp only [List.cons.injEq, Value.slice.injEq, and_true] at h0
    obtain ⟨rfl, rfl, rfl⟩ := h0
    exact ⟨0, fun _ _ => 0, ⟨0, 0, 0, 0, .nil⟩, Nat.zero_le _, fun i c k hi => by omega, rfl, fun φ => ⟨rfl, by simp, .inl rfl⟩, fun φ id _ => .inl ⟨rfl, none, rfl⟩⟩
  · simp only [List.cons.injEq, Value.slice.injEq, and_true] at hc
    obtain ⟨rfl, rfl, rfl⟩ := hc
    simp only [if_true] at hm
    obtain rfl : m = cap := hm
    clear hf
    have hk1 : 0 < ks.length := List.length_pos_iff.2 h1
    obtain ⟨f, hf'⟩ := Go.Deep.choose_lt (α := List Int) (n := m) (p := fun i xs => W.cells? base (a'.add (i * P.cellsOf e)) (P.cellsOf e) = some (valsK ks xs) ∧ wfsK ks xs) (fun i hi => by
      obtain ⟨cs', h2, h3⟩ := hx i hi
      obtain ⟨xs, e1, e2⟩ := trod_flat n e ks _ _ _ hk h3
      exact ⟨xs, by rw [h2, e1], e2⟩)
    rcases Nat.eq_zero_or_pos m with h0 | hcap
    · subst h0
      have : len = 0 := by omega
      subst this
      exact ⟨0, fun _ _ => 0, ⟨0, 0, 0, 0, .nil⟩, Nat.zero_le _, fun i c k hi => by omega, rfl, fun φ => ⟨rfl, by simp, .inl rfl⟩, fun φ id _ => .inl ⟨rfl, some a', rfl⟩⟩
    · have hcell : ∀ i c k, i < m → ks[c]? = some k → W.cell? ((a'.add (i * ks.length)).add c) = some (valS k ((f i).getD c 0)) := by
        intro i c k hi hc
        obtain ⟨g1, g2⟩ := hf' i hi
        rw [← hlen] at g1
        obtain ⟨_, g3, g4⟩ := World.cells?_some g1
        rw [g4 c (get_lt hc)]
        exact valsK_get g2.length hc
      have hspot : a'.spot = none := by
        have := hcell 0 0 ks[0] hcap (List.getElem?_eq_getElem hk1)
        simp only [Nat.zero_mul, Addr.add, if_true] at this
        unfold World.cell? at this
        split at this
        · split at this
          · cases this
          · rename_i hs
            simpa using hs
        · cases this
      have hat : ∀ i c k, i < m → ks[c]? = some k → ∃ cs t fr, W.heap[a'.block]? = some (.cells cs t fr) ∧ cs[a'.off + (i * ks.length + c)]? = some (valS k ((f i).getD c 0)) := by
        intro i c k hi hc
        have := hcell i c k hi hc
        rw [Go.Deep.add_add] at this
        exact cell_at this hspot
      obtain ⟨cs, ty, fr, hcs, _⟩ := hat 0 0 ks[0] hcap (List.getElem?_eq_getElem hk1)
      have hat' : ∀ i c k, i < m → ks[c]? = some k → cs[a'.off + (i * ks.length + c)]? = some (valS k ((f i).getD c 0)) := by
        intro i c k hi hc
        obtain ⟨cs', ty', fr', h2, h3⟩ := hat i c k hi hc
        rw [hcs] at h2
        cases h2
        exact h3
      refine ⟨len, fun i c => (f i).getD c 0, ⟨a'.block, a'.off, len * ks.length, len, .nil⟩, by omega, fun i c k hi hc => wfsK_at (hf' i (by omega)).2 hc, rfl, fun φ => ⟨rfl, Nat.le_refl _, ?_⟩, fun φ id hφ => ?_⟩
      · rcases Nat.eq_zero_or_pos (len * ks.length) with hz | hp
        · exact .inl hz
        · refine .inr ⟨cs, ty, fr, hcs, ?_, (fun h => by cases h), fun i c sk hi hc => ⟨_, hat' i c sk (by omega) hc, relS_mkS φ sk _⟩⟩
          have hl0 : 0 < len := Nat.pos_of_mul_pos_right hp
          have := hat' (len - 1) (ks.length - 1) ks[ks.length - 1] (by omega) (List.getElem?_eq_getElem (by omega))
          have hlt := (Array.getElem?_eq_some_iff.1 this).1
          have : (len - 1) * ks.length + ks.length = len * ks.length := by
            rw [Nat.sub_mul, Nat.one_mul]
            have : ks.length ≤ len * ks.length := Nat.le_mul_of_pos_left _ hl0
            omega
          simp only
          omega
      · obtain ⟨bl, of, sp⟩ := a'
        simp only at hspot
        subst hspot
        exact .inr ⟨_, m, hφ, hl, by simp, by simp⟩
end

/-! ### memory that is only read -/

theorem rep_ro_nil (heap : Array Obj) : Rep [] [] heap := ⟨rfl, fun id B h => by simp at h, fun id id' B B' L L' b h => by simp at h⟩

theorem rep_ro_snoc {φ : Phi} {H : AH} {heap : Array Obj} {L : Loc} {B : Blk} (h : Rep φ H heap) (hH : ∀ (id : Nat) C, H[id]? = some (some C) → C.mut = false) (hB : ∀ φ, RepB φ L heap B) (hm : B.mut = false) :
    Rep (φ ++ [L]) (H ++ [some B]) heap ∧ ∀ (id : Nat) C, (H ++ [some B])[id]? = some (some C) → C.mut = false := by
  have hmut : ∀ (id : Nat) C, (H ++ [some B])[id]? = some (some C) → C.mut = false := by
    intro id C hC
    rcases get_push hC with ⟨_, hC'⟩ | ⟨_, rfl⟩
    · exact hH id C hC'
    · exact hm
  refine ⟨⟨by simp [h.len], ?_, ?_⟩, hmut⟩
  · intro id C hC
    rcases get_push hC with ⟨hlt, hC'⟩ | ⟨rfl, rfl⟩
    · obtain ⟨L', h1, h2⟩ := h.blk id C hC'
      exact ⟨L', get_prefix h1, h2.mono _⟩
    · exact ⟨L, by rw [← h.len]; simp, hB _⟩
  · intro id id' C C' L1 L2 b h1 _ _ _ _ hmC
    rw [hmut id C h1] at hmC
    cases hmC

section
variable {P : Program} {Γ : Specs} {sy : Nat → Option Nat} {Lp : Loops} {fuel : Nat}

/-- A call of a law that comes to 'true', from memory that is only read. -/
theorem calls_law (hΓ : SpecOK P Γ) (hm : P.follows .mixedOrders = true) {f : FuncId} {fn : Func} (hf : P.funcs[f]? = some fn) (ish : FSh) (hro : (ish.hp.all fun b => !b.mut) = true) (hL : LoopsFn P ish.hp.length Lp fn) {l : List At}
    {T : Tr (List At)} (e : (call P Γ sy Lp fuel fn (mkV ish l) (mkH ish l)).bind (leafO ish.hp.length ⟨[.v false [.k .b]], List.replicate ish.hp.length .no⟩) = T) (hT : T.sat fun r => r = [.b true])
    {φ0 : Phi} {W : World} {args : List Value} (hrep : Rep φ0 (mkH ish l) W.heap) (hargs : All2 (relT φ0) (mkV ish l) args) :
    Calls P f args.toArray W fun e W' => e = .returned (.bool true) ∧ Below W.heap.size W W' := by
  obtain ⟨r, hr, rfl⟩ := hT
  refine (calls_loc hΓ hm hf ish ⟨[.v false [.k .b]], List.replicate ish.hp.length .no⟩ hL (l := l) (r := [.b true]) ⟨_, by rw [e]; exact hr, AtsEq.refl _⟩ hrep hargs).mono ?_
  rintro e w' ⟨v, φ2, rfl, g1, g2, g3, g4⟩
  have hv : v = .bool true := g1.1
  subst hv
  refine ⟨rfl, g3.os, g3.tape, g3.output, g3.size, fun b hb => g3.frame b hb fun id B L h1 h2 h3 h4 => ?_⟩
  obtain ⟨bb, k1, k2⟩ := mkBs_mut h1
  have := List.all_eq_true.1 hro bb (List.mem_of_getElem? k1)
  rw [k2, h2] at this
  cases this
end
end Go.AM
