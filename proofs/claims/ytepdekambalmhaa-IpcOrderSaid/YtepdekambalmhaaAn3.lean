/-
  The abstract machine, part 19: the memory that is taken out of a state.
-/
import Derived.Test.YtepdekambalmhaaAn2
namespace Go.AM

def bRel (bs : List BSh) (heap : Array Obj) (φ : Phi) (L : Loc) : BSh → List At → Prop
  | .no, as => as = []
  | .cells r, as => L.base = 0 ∧ L.sz = r.length ∧ ((r = [] ∧ as = []) ∨ ∃ cs t, heap[L.b]? = some (.cells cs t (0, 0)) ∧ shRels bs φ r as cs.toList)
  | .roc r, as => L.base = 0 ∧ L.sz = r.length ∧ ((r = [] ∧ as = []) ∨ ∃ cs t, heap[L.b]? = some (.cells cs t (0, 0)) ∧ shRels bs φ r as cs.toList)
  | .rows ks own, as => ∃ n g, as = [.r n g] ∧ L.n = n ∧ RepB φ L heap (.rows ks n g own)

theorem bRel.mono {bs : List BSh} {heap : Array Obj} {φ : Phi} (ψ : Phi) {L : Loc} {b : BSh} {as : List At} (h : bRel bs heap φ L b as) : bRel bs heap (φ ++ ψ) L b as := by
  cases b with
  | no => exact h
  | cells r =>
    obtain ⟨h1, h2, h3⟩ := h
    exact ⟨h1, h2, h3.imp id fun ⟨cs, t, h3, h4⟩ => ⟨cs, t, h3, h4.mono ψ⟩⟩
  | roc r =>
    obtain ⟨h1, h2, h3⟩ := h
    exact ⟨h1, h2, h3.imp id fun ⟨cs, t, h3, h4⟩ => ⟨cs, t, h3, h4.mono ψ⟩⟩
  | rows ks own =>
    obtain ⟨n, g, h1, h2, h3⟩ := h
    exact ⟨n, g, h1, h2, h3.mono ψ⟩

/-- Where a block lies that was taken: in one that was there. -/
def FootOK (φ : Phi) (H : AH) (s : Src) (L : Loc) (b : BSh) : Prop :=
  ∀ x, b ≠ .no → 0 < L.sz → L.b = x → ∃ c B0 L0, s.cid = some c ∧ H[c]? = some (some B0) ∧ φ[c]? = some L0 ∧ B0.foot L0 x ∧ (b.mut = true → B0.mut = true ∧ s = .blk c)

section
variable {φ : Phi} {H : AH} {bs : List BSh} {heap : Array Obj}

theorem blkC_some {id : Nat} {l : List AS} (h : blkC H id = some (.cells l)) : ∃ B, H[id]? = some (some B) ∧ (∀ L x, B.foot L x ↔ 0 < L.sz ∧ L.b = x) := by
  unfold blkC at h
  split at h
  · rename_i l' hb
    exact ⟨_, blk_some hb, fun L x => Iff.rfl⟩
  · exact ⟨_, blk_some h, fun L x => Iff.rfl⟩

theorem takeL_cells {N : Nat} (hN : φ.length = N) {r : List Sh} {as : List AS} {L : Loc} {σ σ' : List Src} {φσ : Phi} {l : List At} (h : takeL bs N σ r as = some (σ', l)) (hσ : All2 (SrcOK φ) σ φσ) (hB : RepB φ L heap (.cells as)) :
    Taken φ σ σ' φσ fun φ1 => L.base = 0 ∧ L.sz = r.length ∧ ((r = [] ∧ l = []) ∨ ∃ cs t, heap[L.b]? = some (.cells cs t (0, 0)) ∧ shRels bs φ1 r l cs.toList) := by
  obtain ⟨h1, h2, h3⟩ := hB
  rcases h3 with hz | ⟨cs, t, hc, hrel⟩
  · have e : as = [] := List.length_eq_zero_iff.1 (by omega)
    subst e
    obtain ⟨⟨ψ, e1, e2, e3⟩, e4⟩ := takeL_sound hN (vs := []) h hσ trivial
    have e : r = [] := List.length_eq_zero_iff.1 (by simpa using e4)
    subst e
    exact ⟨ψ, e1, ⟨h1, by simpa using h2, .inl ⟨rfl, e2.1⟩⟩, e3⟩
  · obtain ⟨⟨ψ, e1, e2, e3⟩, e4⟩ := takeL_sound hN h hσ hrel
    exact ⟨ψ, e1, ⟨h1, by omega, .inr ⟨cs, t, hc, e2⟩⟩, e3⟩

theorem rep_rows0 {ks : List SK} {g : Nat → Nat → Int} {own : Bool} {L : Loc} (h1 : L.sz = 0) (h2 : L.n = 0) : RepB φ L heap (.rows ks 0 g own) := ⟨h2, by omega, .inl h1⟩

theorem takeB_sound (hrep : Rep φ H heap) {σ σ' : List Src} {φσ : Phi} {s : Src} {b : BSh} {L : Loc} {l : List At} (h : takeB H bs σ s b = some (σ', l)) (hσ : All2 (SrcOK φ) σ φσ) (hs : SrcOK φ s L) :
    (Taken φ σ σ' φσ fun φ1 => bRel bs heap φ1 L b l) ∧ FootOK φ H s L b := by
  unfold takeB at h
  split at h
  · cases h
    exact ⟨taken_same hσ rfl, fun x hb => (hb rfl).elim⟩
  · rename_i c r
    split at h
    · rename_i as hb
      obtain ⟨L', hL', hB⟩ := hrep.blk _ _ (blk_some hb)
      simp only [SrcOK] at hs
      rw [hs] at hL'; cases hL'
      exact ⟨takeL_cells hrep.len h hσ hB, fun x _ hz e => ⟨c, _, L, rfl, blk_some hb, hs, ⟨hz, e⟩, fun _ => ⟨rfl, rfl⟩⟩⟩
    · cases h
  · rename_i c r
    split at h
    · rename_i as hb
      obtain ⟨L', hL', hB⟩ := rep_blkC hrep hb
      obtain ⟨B, hB1, hB2⟩ := blkC_some hb
      simp only [SrcOK] at hs
      rw [hs] at hL'; cases hL'
      exact ⟨takeL_cells hrep.len h hσ hB, fun x _ hz e => ⟨c, _, L, rfl, hB1, hs, (hB2 _ _).2 ⟨hz, e⟩, fun h => by cases h⟩⟩
    · cases h
  · rename_i c ks own
    split at h
    · rename_i ks' n g own' hb
      split at h
      · rename_i hk
        obtain ⟨rfl, ho⟩ := hk
        cases h
        obtain ⟨L', hL', hB⟩ := hrep.blk _ _ (blk_some hb)
        simp only [SrcOK] at hs
        rw [hs] at hL'; cases hL'
        refine ⟨taken_same hσ ⟨n, g, rfl, hB.1, ?_⟩, fun x _ hz e => ⟨c, _, L, rfl, blk_some hb, hs, ⟨hz, e⟩, fun h => ⟨ho h, rfl⟩⟩⟩
        obtain ⟨h1, h2, h3⟩ := hB
        exact ⟨h1, h2, h3.imp id fun ⟨cs, t, fr, k1, k2, k3, k4⟩ => ⟨cs, t, fr, k1, k2, fun h => k3 (ho h), fun i c sk hi hc => let ⟨v, e1, e2⟩ := k4 i c sk hi hc; ⟨v, e1, by cases sk <;> exact e2⟩⟩⟩
      · cases h
    · cases h
  · rename_i c wd i len ks
    split at h
    · rename_i ks' n g own' hb
      split at h
      · rename_i hk
        obtain ⟨rfl, rfl⟩ := hk
        cases h
        rcases hs with ⟨h0, h1, h2⟩ | ⟨L1, hL1, hin, rfl⟩
        · subst h0
          exact ⟨taken_same hσ ⟨0, _, rfl, h2, rep_rows0 h1 h2⟩, fun x _ hz e => by omega⟩
        · obtain ⟨L', hL', hLn, hn, hreal⟩ := hrep.blk _ _ (blk_some hb)
          rw [hL1] at hL'; cases hL'
          have hle : (i + len) * ks.length ≤ n * ks.length := Nat.mul_le_mul_right _ (by omega)
          rw [Nat.add_mul] at hle
          refine ⟨taken_same hσ ⟨len, _, rfl, rfl, rfl, Nat.le_refl _, ?_⟩, fun x _ hz e => ⟨c, _, L1, rfl, blk_some hb, hL1, ⟨?_, e⟩, fun h => by cases h⟩⟩
          · rcases hreal with hz | ⟨cs, t, fr, k1, k2, k3, k4⟩
            · exact .inl (show len * ks.length = 0 by omega)
            · refine .inr ⟨cs, t, fr, k1, ?_, (fun h => by cases h), fun j cc sk hj hc => ?_⟩
              · simp only; omega
              · obtain ⟨v, e1, e2⟩ := k4 (i + j) cc sk (by omega) hc
                refine ⟨v, ?_, by cases sk <;> exact e2⟩
                rw [← e1]
                congr 1
                simp only
                rw [Nat.add_mul]; omega
          · simp only at hz; omega
      · cases h
    · cases h
  · rename_i c wd o len ks
    split at h
    · rename_i as hb
      split at h
      · rename_i hk
        subst hk
        split at h
        · rename_i rs hrs
          cases h
          obtain ⟨hlen, hspec⟩ := rowsOf_spec hrs
          have hspec : ∀ (j c : Nat) (sk : SK), j < len → ks[c]? = some sk → (as.drop o)[j * ks.length + c]? = some (mkS sk (rowsF rs j c)) := by
            intro j c sk hj hc
            rw [hspec j c sk hj hc]
            congr 2
            unfold rowsF
            split
            · have : j = 0 := by simp at hlen; omega
              subst this
              rfl
            · rfl
          rcases hs with ⟨h0, h1, h2⟩ | ⟨L1, hL1, rfl⟩
          · subst h0
            exact ⟨taken_same hσ ⟨0, _, rfl, h2, rep_rows0 h1 h2⟩, fun x _ hz e => by omega⟩
          · obtain ⟨L', hL', hbase, hsz, hreal⟩ := rep_blkC hrep hb
            obtain ⟨B, hB1, hB2⟩ := blkC_some hb
            rw [hL1] at hL'; cases hL'
            have hpos : 0 < len * ks.length → o + len * ks.length ≤ as.length := by
              intro hp
              have h1 : 0 < len := Nat.pos_of_mul_pos_right hp
              have h2 : 0 < ks.length := Nat.pos_of_mul_pos_left hp
              have := hspec (len - 1) (ks.length - 1) ks[ks.length - 1] (by omega) (List.getElem?_eq_getElem (by omega))
              have hlt := (List.getElem?_eq_some_iff.1 this).1
              simp only [List.length_drop] at hlt
              have : (len - 1) * ks.length + ks.length = len * ks.length := by
                rw [Nat.sub_mul, Nat.one_mul]
                have : ks.length ≤ len * ks.length := Nat.le_mul_of_pos_left _ h1
                omega
              omega
            refine ⟨taken_same hσ ⟨len, _, rfl, rfl, rfl, Nat.le_refl _, ?_⟩, fun x _ hz e => ⟨c, _, L1, rfl, hB1, hL1, (hB2 _ _).2 ⟨?_, e⟩, fun h => by cases h⟩⟩
            · rcases Nat.eq_zero_or_pos (len * ks.length) with hz | hp
              · exact .inl hz
              · have := hpos hp
                rcases hreal with hz | ⟨cs, t, k1, k2⟩
                · omega
                · have hl2 := k2.length_eq
                  simp at hl2
                  refine .inr ⟨cs, t, (0, 0), k1, ?_, (fun h => by cases h), fun j cc sk hj hc => ?_⟩
                  · simp only; omega
                  · have e1 := hspec j cc sk hj hc
                    rw [List.getElem?_drop] at e1
                    obtain ⟨v, e2, e3⟩ := k2.get e1
                    refine ⟨v, ?_, by cases sk <;> exact e3⟩
                    rw [Array.getElem?_toList] at e2
                    rw [← e2]
                    congr 1
                    simp only
                    omega
            · simp only at hz
              have := hpos hz
              omega
        · cases h
      · cases h
    · cases h
  · rename_i ks own
    cases h
    exact ⟨taken_same hσ ⟨0, _, rfl, hs.2, rep_rows0 hs.1 hs.2⟩, fun x _ hz e => by have := hs.1; omega⟩
  · cases h

def bRels (bs : List BSh) (heap : Array Obj) (φ0 : Phi) (H : AH) (σ : List Src) (φ : Phi) : Nat → List BSh → List At → Prop
  | _, [], as => as = []
  | j, b :: r, as => ∃ a1 a2 L s, as = a1 ++ a2 ∧ φ[j]? = some L ∧ σ[j]? = some s ∧ bRel bs heap φ L b a1 ∧ FootOK φ0 H s L b ∧ bRels bs heap φ0 H σ φ (j + 1) r a2

theorem takeBs_sound (hrep : Rep φ H heap) : ∀ {r : List BSh} {j : Nat} {σ σ' : List Src} {φσ : Phi} {l : List At}, takeBs H bs j r σ = some (σ', l) → All2 (SrcOK φ) σ φσ →
    Taken φ σ σ' φσ fun φ1 => bRels bs heap φ H σ' φ1 j r l
  | [], j, σ, σ', φσ, l, h, hσ => by
    cases h
    exact taken_same hσ rfl
  | b :: r, j, σ, σ', φσ, l, h, hσ => by
    simp only [takeBs] at h
    split at h
    · rename_i s hs
      split at h
      · rename_i σ1 x h1
        split at h
        · rename_i σ2 y h2
          cases h
          obtain ⟨L, hL, hsL⟩ := hσ.get hs
          obtain ⟨⟨ψ, e1, e2, τ, e3⟩, e4⟩ := takeB_sound hrep h1 hσ hsL
          obtain ⟨ψ', f1, f2, τ', f3⟩ := takeBs_sound hrep h2 e1
          refine ⟨ψ ++ ψ', by rw [← List.append_assoc]; exact f1, ⟨x, y, L, s, rfl, get_prefix hL, ?_, ?_, e4, by rw [← List.append_assoc]; exact f2⟩, τ ++ τ', by rw [f3, e3]; simp⟩
          · rw [f3, e3, List.append_assoc, List.getElem?_append_left (get_lt hs)]
            exact hs
          · rw [← List.append_assoc]
            exact e2.mono ψ'
        · cases h
      · cases h
    · cases h
end
end Go.AM
