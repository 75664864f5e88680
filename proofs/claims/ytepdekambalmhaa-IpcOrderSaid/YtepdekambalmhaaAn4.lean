/-
  The abstract machine, part 20: a state of a shape stands for what the state that it was taken from stands for.
-/
import Derived.Test.YtepdekambalmhaaAn3
namespace Go.AM

def AtIs (l : List At) (i : Nat) (as : List At) : Prop := ∀ (j : Nat) a, as[j]? = some a → l[i + j]? = some a

theorem AtIs.left {l : List At} {i : Nat} {a1 a2 : List At} (h : AtIs l i (a1 ++ a2)) : AtIs l i a1 := fun j a hj => h j a (by rw [List.getElem?_append_left (get_lt hj)]; exact hj)
theorem AtIs.right {l : List At} {i : Nat} {a1 a2 : List At} (h : AtIs l i (a1 ++ a2)) : AtIs l (i + a1.length) a2 := fun j a hj => by
  have := h (a1.length + j) a (by rw [List.getElem?_append_right (by omega)]; simpa using hj)
  rw [← this]; congr 1; omega

section
variable {bs : List BSh} {φ : Phi} {ns : List Nat} {l : List At}

theorem shRel_len {s : Sh} {as : List At} {v : Value} (h : shRel bs φ s as v) : as.length = s.w := by
  unfold shRel at h
  split at h <;> first | rfl | exact h.elim

theorem shRels_len : ∀ {ss : List Sh} {as : List At} {vs : List Value}, shRels bs φ ss as vs → as.length = shsW ss
  | [], as, vs, h => by rw [h.1]; rfl
  | s :: ss, as, vs, ⟨a1, a2, v, vs', h1, h2, h3, h4⟩ => by rw [h1, List.length_append, shRel_len h3, shRels_len h4]; rfl

theorem avRel_len {s : Bool × List Sh} {as : List At} {v : Value} (h : avRel bs φ s as v) : as.length = shsW s.2 := by
  unfold avRel at h
  split at h
  · obtain ⟨cs, _, h⟩ := h; exact shRels_len h
  · rw [shRel_len h]; rfl
  · exact h.elim

theorem avRels_len : ∀ {ss : List (Bool × List Sh)} {as : List At} {vs : List Value}, avRels bs φ ss as vs → as.length = avsW ss
  | [], as, vs, h => by rw [h.1]; rfl
  | s :: ss, as, vs, ⟨a1, a2, v, vs', h1, h2, h3, h4⟩ => by rw [h1, List.length_append, avRel_len h3, avRels_len h4]; rfl

theorem tRel_len {s : TSh} {as : List At} {v : Value} (h : tRel bs φ s as v) : as.length = s.w := by
  cases s with
  | v b r => exact avRel_len h
  | tup r => obtain ⟨vs, _, h⟩ := h; exact avRels_len h
  | any => rw [show as = [] from h]; rfl

theorem tRels_len : ∀ {ss : List TSh} {as : List At} {vs : List Value}, tRels bs φ ss as vs → as.length = tshsW ss
  | [], as, vs, h => by rw [h.1]; rfl
  | s :: ss, as, vs, ⟨a1, a2, v, vs', h1, h2, h3, h4⟩ => by rw [h1, List.length_append, tRel_len h3, tRels_len h4]; rfl

/-- How many rows the blocks have. -/
def NsOK (bs : List BSh) (φ : Phi) (ns : List Nat) : Prop := ∀ id L, isRows bs id = true → φ[id]? = some L → ns.getD id 0 = L.n

theorem mkSh_rel (hns : NsOK bs φ ns) {s : Sh} {as : List At} {v : Value} {i : Nat} (h : shRel bs φ s as v) (hl : AtIs l i as) : relS φ (mkSh ns l i s) v := by
  unfold shRel at h
  split at h
  · rename_i x
    have := hl 0 _ rfl
    simp only [Nat.add_zero] at this
    simp only [mkSh, aB, this]
    exact h
  · rename_i k x
    have := hl 0 _ rfl
    simp only [Nat.add_zero] at this
    simp only [mkSh, aI, this]
    exact h
  · exact h
  · rename_i id wd c i'
    have := hl 0 _ rfl
    simp only [Nat.add_zero] at this
    simp only [mkSh, aN, this]
    exact h
  · obtain ⟨L, h1, h2, h3⟩ := h
    simp only [mkSh, hns _ L h3 h1]
    exact h2
  · rename_i id wd i' len
    have e1 := hl 0 _ rfl
    have e2 := hl 1 _ rfl
    simp only [Nat.add_zero] at e1
    simp only [mkSh, aN, e1, e2]
    exact h
  · obtain ⟨L, h1, h2, h3⟩ := h
    simp only [mkSh, hns _ L h3 h1]
    exact h2
  · exact h
  · exact h
  · exact h
  · exact h
  · exact h
  · exact h.elim

theorem mkShs_rel (hns : NsOK bs φ ns) : ∀ {ss : List Sh} {as : List At} {vs : List Value} {i : Nat}, shRels bs φ ss as vs → AtIs l i as → All2 (relS φ) (mkShs ns l i ss) vs
  | [], as, vs, i, h, _ => by rw [h.2]; trivial
  | s :: ss, as, vs, i, ⟨a1, a2, v, vs', h1, h2, h3, h4⟩, hl => by
    subst h1; subst h2
    refine ⟨mkSh_rel hns h3 hl.left, ?_⟩
    have := hl.right
    rw [shRel_len h3] at this
    exact mkShs_rel hns h4 this

theorem mkShs_length : ∀ {ss : List Sh} {i : Nat}, (mkShs ns l i ss).length = ss.length
  | [], _ => rfl
  | s :: ss, i => by simp [mkShs, mkShs_length]

theorem mkAVS_rel (hns : NsOK bs φ ns) {s : Bool × List Sh} {as : List At} {v : Value} {i : Nat} (h : avRel bs φ s as v) (hl : AtIs l i as) : relA φ (mkAVS ns l i s) v := by
  unfold avRel at h
  split at h
  · obtain ⟨cs, rfl, h⟩ := h
    exact ⟨cs, rfl, mkShs_rel hns h hl⟩
  · exact mkSh_rel hns h hl
  · exact h.elim

theorem mkAVSs_rel (hns : NsOK bs φ ns) : ∀ {ss : List (Bool × List Sh)} {as : List At} {vs : List Value} {i : Nat}, avRels bs φ ss as vs → AtIs l i as → All2 (relA φ) (mkAVSs ns l i ss) vs
  | [], as, vs, i, h, _ => by rw [h.2]; trivial
  | s :: ss, as, vs, i, ⟨a1, a2, v, vs', h1, h2, h3, h4⟩, hl => by
    subst h1; subst h2
    refine ⟨mkAVS_rel hns h3 hl.left, ?_⟩
    have := hl.right
    rw [avRel_len h3] at this
    exact mkAVSs_rel hns h4 this

theorem mkTV_rel (hns : NsOK bs φ ns) {s : TSh} {as : List At} {v : Value} {i : Nat} (h : tRel bs φ s as v) (hl : AtIs l i as) : relT φ (mkTV ns l i s) v := by
  cases s with
  | v b r => exact mkAVS_rel hns h hl
  | tup r => obtain ⟨vs, h1, h2⟩ := h; exact ⟨vs, h1, mkAVSs_rel hns h2 hl⟩
  | any => trivial

theorem mkTVs_rel (hns : NsOK bs φ ns) : ∀ {ss : List TSh} {as : List At} {vs : List Value} {i : Nat}, tRels bs φ ss as vs → AtIs l i as → All2 (relT φ) (mkTVs ns l i ss) vs
  | [], as, vs, i, h, _ => by rw [h.2]; trivial
  | s :: ss, as, vs, i, ⟨a1, a2, v, vs', h1, h2, h3, h4⟩, hl => by
    subst h1; subst h2
    refine ⟨mkTV_rel hns h3 hl.left, ?_⟩
    have := hl.right
    rw [tRel_len h3] at this
    exact mkTVs_rel hns h4 this

theorem bRel_len {heap : Array Obj} {L : Loc} {b : BSh} {as : List At} (h : bRel bs heap φ L b as) : as.length = b.w := by
  cases b with
  | no => rw [show as = [] from h]; rfl
  | cells r =>
    obtain ⟨_, _, ⟨rfl, rfl⟩ | ⟨cs, t, _, h⟩⟩ := h
    · rfl
    · exact shRels_len h
  | roc r =>
    obtain ⟨_, _, ⟨rfl, rfl⟩ | ⟨cs, t, _, h⟩⟩ := h
    · rfl
    · exact shRels_len h
  | rows ks own => obtain ⟨n, g, rfl, _⟩ := h; rfl

theorem bRel_rep (hns : NsOK bs φ ns) {heap : Array Obj} {L : Loc} {b : BSh} {as : List At} {i : Nat} {B : Blk} (h : bRel bs heap φ L b as) (hl : AtIs l i as) (hB : mkB ns l i b = some B) : RepB φ L heap B ∧ B.mut = b.mut ∧ b ≠ .no := by
  cases b with
  | no => cases hB
  | cells r =>
    cases hB
    obtain ⟨h1, h2, h3⟩ := h
    refine ⟨⟨h1, by rw [mkShs_length]; exact h2, ?_⟩, rfl, by simp⟩
    rcases h3 with ⟨rfl, rfl⟩ | ⟨cs, t, h3, h4⟩
    · exact .inl h2
    · exact .inr ⟨cs, t, h3, mkShs_rel hns h4 hl⟩
  | roc r =>
    cases hB
    obtain ⟨h1, h2, h3⟩ := h
    refine ⟨⟨h1, by rw [mkShs_length]; exact h2, ?_⟩, rfl, by simp⟩
    rcases h3 with ⟨rfl, rfl⟩ | ⟨cs, t, h3, h4⟩
    · exact .inl h2
    · exact .inr ⟨cs, t, h3, mkShs_rel hns h4 hl⟩
  | rows ks own =>
    cases hB
    obtain ⟨n, g, rfl, h1, h2⟩ := h
    have := hl 0 _ rfl
    simp only [Nat.add_zero] at this
    simp only [aRn, aRg, this]
    exact ⟨h2, rfl, by simp⟩

theorem mkBs_length : ∀ {r : List BSh} {i : Nat}, (mkBs ns l i r).length = r.length
  | [], _ => rfl
  | s :: ss, i => by simp [mkBs, mkBs_length]

theorem bRels_get {heap : Array Obj} {φ0 : Phi} {H : AH} {σ : List Src} : ∀ {r : List BSh} {j i t : Nat} {as : List At} {b : BSh}, bRels bs heap φ0 H σ φ j r as → AtIs l i as → r[t]? = some b →
    ∃ a L s i', φ[j + t]? = some L ∧ σ[j + t]? = some s ∧ bRel bs heap φ L b a ∧ FootOK φ0 H s L b ∧ AtIs l i' a ∧ (∀ ns', (mkBs ns' l i r)[t]? = some (mkB ns' l i' b)) ∧ (mkNs l i r)[t]? = some (match b with | .rows _ _ => aRn l i' | _ => 0)
  | [], j, i, t, as, b, h, hl, ht => by simp at ht
  | b0 :: r, j, i, t, as, b, ⟨a1, a2, L, s, h1, h2, h3, h4, h5, h6⟩, hl, ht => by
    subst h1
    cases t with
    | zero =>
      simp only [List.getElem?_cons_zero, Option.some.injEq] at ht
      subst ht
      exact ⟨a1, L, s, i, h2, h3, h4, h5, hl.left, fun _ => rfl, rfl⟩
    | succ t =>
      have hr := hl.right
      rw [bRel_len h4] at hr
      obtain ⟨a, L', s', i', e1, e2, e3, e4, e5, e6, e7⟩ := bRels_get h6 hr (t := t) (b := b) (by simpa using ht)
      refine ⟨a, L', s', i', by rw [← e1]; congr 1; omega, by rw [← e2]; congr 1; omega, e3, e4, e5, fun ns' => ?_, ?_⟩
      · simpa [mkBs] using e6 ns'
      · simpa [mkNs] using e7

theorem apartS_spec {s : Src} {b : BSh} {c : Nat} : ∀ {r : List Src} {r' : List BSh} {t : Nat} {s' : Src} {b' : BSh}, apartS s b r r' = true → r[t]? = some s' → r'[t]? = some b' → (b.mut || b'.mut) = true → s.cid = some c → s'.cid = some c → False
  | s1 :: r, b1 :: r', t, s', b', h, h1, h2, h3, h4, h5 => by
    cases t with
    | zero =>
      simp only [List.getElem?_cons_zero, Option.some.injEq] at h1 h2
      subst h1; subst h2
      simp [apartS, h3, h4, h5] at h
    | succ t =>
      refine apartS_spec (r := r) (r' := r') (t := t) ?_ (by simpa using h1) (by simpa using h2) h3 h4 h5
      simp only [apartS] at h
      split at h
      · split at h
        · cases h
        · exact h
      · exact h
  | [], _, t, _, _, _, h1, _, _, _, _ => by simp at h1
  | _ :: _, [], t, _, _, _, _, h2, _, _, _ => by simp at h2

theorem apartSs_spec {c : Nat} : ∀ {r : List Src} {r' : List BSh} {t t' : Nat} {s s' : Src} {b b' : BSh}, apartSs r r' = true → t < t' → r[t]? = some s → r'[t]? = some b → r[t']? = some s' → r'[t']? = some b' → (b.mut || b'.mut) = true → s.cid = some c → s'.cid = some c → False
  | s1 :: r, b1 :: r', t, t', s, s', b, b', h, ht, h1, h2, h3, h4, h5, h6, h7 => by
    simp only [apartSs] at h
    split at h
    · rename_i ha
      obtain ⟨t'', rfl⟩ : ∃ t'', t' = t'' + 1 := ⟨t' - 1, by omega⟩
      cases t with
      | zero =>
        simp only [List.getElem?_cons_zero, Option.some.injEq] at h1 h2
        subst h1; subst h2
        exact apartS_spec ha (by simpa using h3) (by simpa using h4) h5 h6 h7
      | succ t => exact apartSs_spec (t := t) (t' := t'') h (by omega) (by simpa using h1) (by simpa using h2) (by simpa using h3) (by simpa using h4) h5 h6 h7
    · cases h
  | [], _, _, _, _, _, _, _, _, _, h1, _, _, _, _, _, _ => by simp at h1
  | _ :: _, [], _, _, _, _, _, _, _, _, _, h2, _, _, _, _, _ => by simp at h2
end

theorem firstK_get : ∀ {k i j : Nat}, j < k → (firstK i k)[j]? = some (.blk (i + j))
  | k + 1, i, 0, _ => rfl
  | k + 1, i, j + 1, h => by
    simp only [firstK, List.getElem?_cons_succ]
    rw [firstK_get (by omega)]
    congr 2; omega

theorem firstK_length : ∀ {k i : Nat}, (firstK i k).length = k
  | 0, _ => rfl
  | k + 1, i => by simp [firstK, firstK_length]

theorem firstK_ok {φ : Phi} {k : Nat} (h : k ≤ φ.length) : All2 (SrcOK φ) (firstK 0 k) (φ.take k) := by
  refine All2.of_get (by rw [firstK_length]; simp; omega) fun i a b h1 h2 => ?_
  have hi : i < k := by have := get_lt h1; rw [firstK_length] at this; exact this
  rw [firstK_get hi] at h1
  cases h1
  rw [List.getElem?_take, if_pos hi] at h2
  simpa [SrcOK] using h2

/-- What was taken lies where something lay. -/
def Img (φ : Phi) (H : AH) (σ : List Src) (φ' : Phi) (H' : AH) : Prop := ∀ (j : Nat) (B : Blk) (L : Loc) (x : Nat), H'[j]? = some (some B) → φ'[j]? = some L → B.foot L x →
  ∃ s c B0 L0, σ[j]? = some s ∧ s.cid = some c ∧ H[c]? = some (some B0) ∧ φ[c]? = some L0 ∧ B0.foot L0 x ∧ (B.mut = true → B0.mut = true ∧ s = .blk c)

theorem takeF_sound {φ : Phi} {H : AH} {heap : Array Obj} {k : Nat} {sh : FSh} {ts : List TV} {vs : List Value} {σ : List Src} {l : List At} (h : takeF k sh ts H = some (σ, l)) (hrep : Rep φ H heap) (hk : k ≤ H.length) (hts : All2 (relT φ) ts vs) :
    ∃ φ', All2 (SrcOK φ) σ φ' ∧ Rep φ' (mkH sh l) heap ∧ All2 (relT φ') (mkV sh l) vs ∧ (∀ j, j < k → φ'[j]? = φ[j]? ∧ σ[j]? = some (.blk j)) ∧ Img φ H σ φ' (mkH sh l) := by
  unfold takeF at h
  split at h
  · rename_i σ1 x h1
    split at h
    · rename_i σ2 y h2
      split at h
      · rename_i hlen hap
        cases h
        have hlen := Nat.eq_of_beq_eq_true hlen
        obtain ⟨ψ, e1, e2, τ, e3⟩ := takeTs_sound hrep.len h1 (firstK_ok (by rw [hrep.len]; exact hk)) hts
        obtain ⟨ψ', f1, f2, τ', f3⟩ := takeBs_sound hrep h2 e1
        have e2' := e2.mono ψ'
        have hfirst : ∀ j, j < k → (φ.take k ++ ψ ++ ψ')[j]? = φ[j]? ∧ σ[j]? = some (.blk j) := by
          intro j hj
          have hjl : j < (φ.take k).length := by simp; have := hrep.len; omega
          refine ⟨?_, ?_⟩
          · rw [List.append_assoc, List.getElem?_append_left hjl, List.getElem?_take, if_pos hj]
          · rw [f3, e3, List.append_assoc, List.getElem?_append_left (by rw [firstK_length]; exact hj), firstK_get hj, Nat.zero_add]
        generalize φ.take k ++ ψ ++ ψ' = φ' at f1 f2 e2' hfirst
        have hx := tRels_len e2'
        have hlx : AtIs (x ++ y) 0 x := fun j a hj => by rw [Nat.zero_add, List.getElem?_append_left (get_lt hj)]; exact hj
        have hly : AtIs (x ++ y) (tshsW sh.vals) y := fun j a hj => by rw [← hx, List.getElem?_append_right (by omega)]; simpa using hj
        have hφ : φ'.length = sh.hp.length := by rw [← f1.length_eq, hlen]
        have hns : NsOK sh.hp φ' (mkNs (x ++ y) (tshsW sh.vals) sh.hp) := by
          intro id L hr hL
          unfold isRows at hr
          split at hr
          · rename_i ks own hb
            obtain ⟨a, L', s, i', g1, g2, g3, g4, g5, g6, g7⟩ := bRels_get f2 hly hb
            rw [Nat.zero_add, hL] at g1
            cases g1
            rw [List.getD_eq_getElem?_getD, g7]
            obtain ⟨n, g, rfl, q1, q2⟩ := g3
            have := g5 0 _ rfl
            simp only [Nat.add_zero] at this
            simp only [Option.getD_some, aRn, this]
            exact q1.symm
          · cases hr
        have hget : ∀ (j : Nat) (B : Blk), (mkH sh (x ++ y))[j]? = some (some B) → ∃ b L s, sh.hp[j]? = some b ∧ φ'[j]? = some L ∧ σ[j]? = some s ∧ RepB φ' L heap B ∧ B.mut = b.mut ∧ b ≠ .no ∧ FootOK φ H s L b := by
          intro j B hB
          have hj : j < sh.hp.length := by have := get_lt hB; rw [mkH, mkBs_length] at this; exact this
          have hb : sh.hp[j]? = some sh.hp[j] := List.getElem?_eq_getElem hj
          obtain ⟨a, L, s, i', g1, g2, g3, g4, g5, g6, g7⟩ := bRels_get f2 hly hb
          rw [Nat.zero_add] at g1 g2
          have e := g6 (mkNs (x ++ y) (tshsW sh.vals) sh.hp)
          rw [mkH] at hB
          rw [hB] at e
          obtain ⟨q1, q2, q3⟩ := bRel_rep hns g3 g5 (Option.some.inj e).symm
          exact ⟨_, L, s, hb, g1, g2, q1, q2, q3, g4⟩
        have hImg : Img φ H σ φ' (mkH sh (x ++ y)) := by
          intro j B L b hB hL hf
          obtain ⟨bb, L', s, g1, g2, g3, g4, g5, g6, g7⟩ := hget j B hB
          rw [hL] at g2; cases g2
          obtain ⟨c, B0, L0, q1, q2, q3, q4, q5⟩ := g7 b g6 hf.1 hf.2
          exact ⟨s, c, B0, L0, g3, q1, q2, q3, q4, fun hm => q5 (by rw [← g5]; exact hm)⟩
        refine ⟨φ', f1, ⟨by rw [hφ, mkH, mkBs_length], ?_, ?_⟩, mkTVs_rel hns e2' hlx, hfirst, hImg⟩
        · intro id B hB
          obtain ⟨b, L, s, _, g2, _, g4, _⟩ := hget id B hB
          exact ⟨L, g2, g4⟩
        · intro id id' B B' L L' b hB hB' hL hL' hne hm z z'
          obtain ⟨bb, _, s, g1, _, g3, _, g5, g6, _⟩ := hget id B hB
          obtain ⟨bb', _, s', g1', _, g3', _, g5', g6', _⟩ := hget id' B' hB'
          obtain ⟨t, c, B0, L0, p1, p2, p3, p4, p5, p6⟩ := hImg id B L b hB hL z
          obtain ⟨t', c', B0', L0', p1', p2', p3', p4', p5', p6'⟩ := hImg id' B' L' b hB' hL' z'
          rw [g3] at p1; cases p1
          rw [g3'] at p1'; cases p1'
          have hmb : bb.mut = true := by rw [← g5]; exact hm
          by_cases hcc : c = c'
          · subst hcc
            rcases Nat.lt_or_gt_of_ne hne with hlt | hlt
            · exact apartSs_spec hap hlt g3 g1 g3' g1' (by simp [hmb]) p2 p2'
            · exact apartSs_spec hap hlt g3' g1' g3 g1 (by simp [hmb]) p2' p2
          · exact hrep.apart c c' B0 B0' L0 L0' b p3 p3' p4 p4' hcc (p6 hm).1 p5 p5'
      · cases h
    · cases h
  · cases h
end Go.AM
