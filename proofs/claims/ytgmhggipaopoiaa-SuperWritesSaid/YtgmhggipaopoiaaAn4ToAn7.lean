/-
  The abstract machine, part 20: a state of a shape stands for what the state that it was taken from stands for.
-/
import Derived.Test.YtgmhggipaopoiaaAmDToAn3
import Derived.Test.YtgmhggipaopoiaaAmO
section
namespace Go.AM

theorem AtIs.left {l : List At} {i : Nat} {a1 a2 : List At} (h : AtIs l i (a1 ++ a2)) : AtIs l i a1 := fun j a hj => h j a (by rw [List.getElem?_append_left (get_lt hj)]; exact hj)
theorem AtIs.right {l : List At} {i : Nat} {a1 a2 : List At} (h : AtIs l i (a1 ++ a2)) : AtIs l (i + a1.length) a2 := fun j a hj => by
  have := h (a1.length + j) a (by rw [List.getElem?_append_right (by omega)]; simpa using hj)
  rw [← this]; congr 1; omega

section
variable {bs : List BSh} {φ : Phi} {ns : List Nat} {l : List At}

theorem shRel_len {s : Sh} {as : List At} {v : Value} (h : shRel bs φ s as v) : as.length = s.w := by
  unfold shRel at h
  split at h <;> first | rfl | exact h.elim

theorem shRels_len : ∀ {ss : List Sh} {as : List At} {vs : List Value}, shRels bs φ ss as vs → as.length = shsW ss
  | [], as, vs, h => by rw [h.1]; rfl
  | s :: ss, as, vs, ⟨a1, a2, v, vs', h1, h2, h3, h4⟩ => by rw [h1, List.length_append, shRel_len h3, shRels_len h4]; rfl

theorem avRel_len {s : Bool × List Sh} {as : List At} {v : Value} (h : avRel bs φ s as v) : as.length = shsW s.2 := by
  unfold avRel at h
  split at h
  · obtain ⟨cs, _, h⟩ := h; exact shRels_len h
  · rw [shRel_len h]; rfl
  · exact h.elim

theorem avRels_len : ∀ {ss : List (Bool × List Sh)} {as : List At} {vs : List Value}, avRels bs φ ss as vs → as.length = avsW ss
  | [], as, vs, h => by rw [h.1]; rfl
  | s :: ss, as, vs, ⟨a1, a2, v, vs', h1, h2, h3, h4⟩ => by rw [h1, List.length_append, avRel_len h3, avRels_len h4]; rfl

theorem tRel_len {s : TSh} {as : List At} {v : Value} (h : tRel bs φ s as v) : as.length = s.w := by
  cases s with
  | v b r => exact avRel_len h
  | tup r => obtain ⟨vs, _, h⟩ := h; exact avRels_len h
  | any => rw [show as = [] from h]; rfl

theorem tRels_len : ∀ {ss : List TSh} {as : List At} {vs : List Value}, tRels bs φ ss as vs → as.length = tshsW ss
  | [], as, vs, h => by rw [h.1]; rfl
  | s :: ss, as, vs, ⟨a1, a2, v, vs', h1, h2, h3, h4⟩ => by rw [h1, List.length_append, tRel_len h3, tRels_len h4]; rfl

def NsOK (bs : List BSh) (φ : Phi) (ns : List Nat) : Prop := ∀ id L, isRows bs id = true → φ[id]? = some L → ns.getD id 0 = L.n

theorem mkSh_rel (hns : NsOK bs φ ns) {s : Sh} {as : List At} {v : Value} {i : Nat} (h : shRel bs φ s as v) (hl : AtIs l i as) : relS φ (mkSh ns l i s) v := by
  unfold shRel at h
  split at h
  · rename_i x
    have := hl 0 _ rfl
    simp only [Nat.add_zero] at this
    simp only [mkSh, aB, this]
    exact h
  · rename_i k x
    have := hl 0 _ rfl
    simp only [Nat.add_zero] at this
    simp only [mkSh, aI, this]
    exact h
  · exact h
  · rename_i id wd c i'
    have := hl 0 _ rfl
    simp only [Nat.add_zero] at this
    simp only [mkSh, aN, this]
    exact h
  · obtain ⟨L, h1, h2, h3⟩ := h
    simp only [mkSh, hns _ L h3 h1]
    exact h2
  · rename_i id wd i' len
    have e1 := hl 0 _ rfl
    have e2 := hl 1 _ rfl
    simp only [Nat.add_zero] at e1
    simp only [mkSh, aN, e1, e2]
    exact h
  · obtain ⟨L, h1, h2, h3⟩ := h
    simp only [mkSh, hns _ L h3 h1]
    exact h2
  · exact h
  · rename_i id f wd i' lo len
    have e1 := hl 0 _ rfl
    have e2 := hl 1 _ rfl
    have e3 := hl 2 _ rfl
    simp only [Nat.add_zero] at e1
    simp only [mkSh, aN, e1, e2, e3]
    exact h
  · obtain ⟨L, h1, h2, h3⟩ := h
    simp only [mkSh, hns _ L h3 h1]
    exact h2
  · exact h
  · exact h
  · exact h
  · exact h
  · exact h.elim

theorem mkShs_rel (hns : NsOK bs φ ns) : ∀ {ss : List Sh} {as : List At} {vs : List Value} {i : Nat}, shRels bs φ ss as vs → AtIs l i as → All2 (relS φ) (mkShs ns l i ss) vs
  | [], as, vs, i, h, _ => by rw [h.2]; trivial
  | s :: ss, as, vs, i, ⟨a1, a2, v, vs', h1, h2, h3, h4⟩, hl => by
    subst h1; subst h2
    refine ⟨mkSh_rel hns h3 hl.left, ?_⟩
    have := hl.right
    rw [shRel_len h3] at this
    exact mkShs_rel hns h4 this

theorem mkShs_length : ∀ {ss : List Sh} {i : Nat}, (mkShs ns l i ss).length = ss.length
  | [], _ => rfl
  | s :: ss, i => by simp [mkShs, mkShs_length]

theorem mkAVS_rel (hns : NsOK bs φ ns) {s : Bool × List Sh} {as : List At} {v : Value} {i : Nat} (h : avRel bs φ s as v) (hl : AtIs l i as) : relA φ (mkAVS ns l i s) v := by
  unfold avRel at h
  split at h
  · obtain ⟨cs, rfl, h⟩ := h
    exact ⟨cs, rfl, mkShs_rel hns h hl⟩
  · exact mkSh_rel hns h hl
  · exact h.elim

theorem mkAVSs_rel (hns : NsOK bs φ ns) : ∀ {ss : List (Bool × List Sh)} {as : List At} {vs : List Value} {i : Nat}, avRels bs φ ss as vs → AtIs l i as → All2 (relA φ) (mkAVSs ns l i ss) vs
  | [], as, vs, i, h, _ => by rw [h.2]; trivial
  | s :: ss, as, vs, i, ⟨a1, a2, v, vs', h1, h2, h3, h4⟩, hl => by
    subst h1; subst h2
    refine ⟨mkAVS_rel hns h3 hl.left, ?_⟩
    have := hl.right
    rw [avRel_len h3] at this
    exact mkAVSs_rel hns h4 this

theorem mkTV_rel (hns : NsOK bs φ ns) {s : TSh} {as : List At} {v : Value} {i : Nat} (h : tRel bs φ s as v) (hl : AtIs l i as) : relT φ (mkTV ns l i s) v := by
  cases s with
  | v b r => exact mkAVS_rel hns h hl
  | tup r => obtain ⟨vs, h1, h2⟩ := h; exact ⟨vs, h1, mkAVSs_rel hns h2 hl⟩
  | any => trivial

theorem mkTVs_rel (hns : NsOK bs φ ns) : ∀ {ss : List TSh} {as : List At} {vs : List Value} {i : Nat}, tRels bs φ ss as vs → AtIs l i as → All2 (relT φ) (mkTVs ns l i ss) vs
  | [], as, vs, i, h, _ => by rw [h.2]; trivial
  | s :: ss, as, vs, i, ⟨a1, a2, v, vs', h1, h2, h3, h4⟩, hl => by
    subst h1; subst h2
    refine ⟨mkTV_rel hns h3 hl.left, ?_⟩
    have := hl.right
    rw [tRel_len h3] at this
    exact mkTVs_rel hns h4 this

theorem bRel_len {heap : Array Obj} {L : Loc} {b : BSh} {as : List At} (h : bRel bs heap φ L b as) : as.length = b.w := by
  cases b with
  | no => rw [show as = [] from h]; rfl
  | cells r =>
    obtain ⟨_, _, ⟨rfl, rfl⟩ | ⟨cs, t, _, h⟩⟩ := h
    · rfl
    · exact shRels_len h
  | roc r =>
    obtain ⟨_, _, ⟨rfl, rfl⟩ | ⟨cs, t, _, h⟩⟩ := h
    · rfl
    · exact shRels_len h
  | rows ks own => obtain ⟨n, g, rfl, _⟩ := h; rfl
  | nrows ks c0 ms f bel own =>
    cases bel with
    | false => obtain ⟨n, g, h', rfl, _⟩ := h; rfl
    | true => obtain ⟨n, g, h', k, rfl, _⟩ := h; rfl

theorem bRel_rep (hns : NsOK bs φ ns) {heap : Array Obj} {L : Loc} {b : BSh} {as : List At} {i : Nat} {B : Blk} (h : bRel bs heap φ L b as) (hl : AtIs l i as) (hB : mkB ns l i b = some B) : RepB φ L heap B ∧ B.mut = b.mut ∧ b ≠ .no := by
  cases b with
  | no => cases hB
  | cells r =>
    cases hB
    obtain ⟨h1, h2, h3⟩ := h
    refine ⟨⟨h1, by rw [mkShs_length]; exact h2, ?_⟩, rfl, by simp⟩
    rcases h3 with ⟨rfl, rfl⟩ | ⟨cs, t, h3, h4⟩
    · exact .inl h2
    · exact .inr ⟨cs, t, h3, mkShs_rel hns h4 hl⟩
  | roc r =>
    cases hB
    obtain ⟨h1, h2, h3⟩ := h
    refine ⟨⟨h1, by rw [mkShs_length]; exact h2, ?_⟩, rfl, by simp⟩
    rcases h3 with ⟨rfl, rfl⟩ | ⟨cs, t, h3, h4⟩
    · exact .inl h2
    · exact .inr ⟨cs, t, h3, mkShs_rel hns h4 hl⟩
  | rows ks own =>
    cases hB
    obtain ⟨n, g, rfl, h1, h2⟩ := h
    have := hl 0 _ rfl
    simp only [Nat.add_zero] at this
    simp only [aRn, aRg, this]
    exact ⟨h2, rfl, by simp⟩
  | nrows ks c0 ms f bel own =>
    cases bel with
    | false =>
      cases hB
      obtain ⟨n, g, h', rfl, h1, h2⟩ := h
      have := hl 0 _ rfl
      simp only [Nat.add_zero] at this
      simp only [aRn, aRg, aMh, this, Nat.beq_refl]
      exact ⟨h2, rfl, by simp⟩
    | true =>
      cases hB
      obtain ⟨n, g, h', k, rfl, h1, h2⟩ := h
      have e0 := hl 0 _ rfl
      have e1 := hl 1 _ rfl
      simp only [Nat.add_zero] at e0
      simp only [aRn, aRg, aMh, aN, e0, e1, Nat.beq_refl]
      exact ⟨h2, rfl, by simp⟩

theorem mkBs_length : ∀ {r : List BSh} {i : Nat}, (mkBs ns l i r).length = r.length
  | [], _ => rfl
  | s :: ss, i => by simp [mkBs, mkBs_length]

theorem bRels_get {heap : Array Obj} {φ0 : Phi} {H : AH} {σ : List Src} : ∀ {r : List BSh} {j i t : Nat} {as : List At} {b : BSh}, bRels bs heap φ0 H σ φ j r as → AtIs l i as → r[t]? = some b →
    ∃ a L s i', φ[j + t]? = some L ∧ σ[j + t]? = some s ∧ bRel bs heap φ L b a ∧ FootOK φ0 H φ s L b a ∧ AtIs l i' a ∧ (∀ ns', (mkBs ns' l i r)[t]? = some (mkB ns' l i' b)) ∧ (mkNs l i r)[t]? = some (match b with | .rows _ _ => aRn l i' | .nrows _ _ _ _ false _ => aRn l i' | .nrows _ _ _ _ true _ => aRn l (i' + 1) | _ => 0)
  | [], j, i, t, as, b, h, hl, ht => by simp at ht
  | b0 :: r, j, i, t, as, b, ⟨a1, a2, L, s, h1, h2, h3, h4, h5, h6⟩, hl, ht => by
    subst h1
    cases t with
    | zero =>
      simp only [List.getElem?_cons_zero, Option.some.injEq] at ht
      subst ht
      exact ⟨a1, L, s, i, h2, h3, h4, h5, hl.left, fun _ => rfl, rfl⟩
    | succ t =>
      have hr := hl.right
      rw [bRel_len h4] at hr
      obtain ⟨a, L', s', i', e1, e2, e3, e4, e5, e6, e7⟩ := bRels_get h6 hr (t := t) (b := b) (by simpa using ht)
      refine ⟨a, L', s', i', by rw [← e1]; congr 1; omega, by rw [← e2]; congr 1; omega, e3, e4, e5, fun ns' => ?_, ?_⟩
      · simpa [mkBs] using e6 ns'
      · simpa [mkNs] using e7

theorem not_no {b : BSh} (h : b ≠ .no) : b.not = false := by
  cases b <;> first | rfl | exact absurd rfl h

theorem apartS_spec {s : Src} {b : BSh} {c : Nat} : ∀ {r : List Src} {r' : List BSh} {t : Nat} {s' : Src} {b' : BSh}, apartS s b r r' = true → r[t]? = some s' → r'[t]? = some b' → ((b.mut || b'.mut) && !b.not && !b'.not) = true → s.cid = some c → s'.cid = some c → False
  | s1 :: r, b1 :: r', t, s', b', h, h1, h2, h3, h4, h5 => by
    cases t with
    | zero =>
      simp only [List.getElem?_cons_zero, Option.some.injEq] at h1 h2
      subst h1; subst h2
      simp [apartS, h3, h4, h5] at h
    | succ t =>
      refine apartS_spec (r := r) (r' := r') (t := t) ?_ (by simpa using h1) (by simpa using h2) h3 h4 h5
      simp only [apartS] at h
      split at h
      · split at h
        · cases h
        · exact h
      · exact h
  | [], _, t, _, _, _, h1, _, _, _, _ => by simp at h1
  | _ :: _, [], t, _, _, _, _, h2, _, _, _ => by simp at h2

theorem apartSs_spec {c : Nat} : ∀ {r : List Src} {r' : List BSh} {t t' : Nat} {s s' : Src} {b b' : BSh}, apartSs r r' = true → t < t' → r[t]? = some s → r'[t]? = some b → r[t']? = some s' → r'[t']? = some b' → ((b.mut || b'.mut) && !b.not && !b'.not) = true → s.cid = some c → s'.cid = some c → False
  | s1 :: r, b1 :: r', t, t', s, s', b, b', h, ht, h1, h2, h3, h4, h5, h6, h7 => by
    simp only [apartSs] at h
    split at h
    · rename_i ha
      obtain ⟨t'', rfl⟩ : ∃ t'', t' = t'' + 1 := ⟨t' - 1, by omega⟩
      cases t with
      | zero =>
        simp only [List.getElem?_cons_zero, Option.some.injEq] at h1 h2
        subst h1; subst h2
        exact apartS_spec ha (by simpa using h3) (by simpa using h4) h5 h6 h7
      | succ t => exact apartSs_spec (t := t) (t' := t'') h (by omega) (by simpa using h1) (by simpa using h2) (by simpa using h3) (by simpa using h4) h5 h6 h7
    · cases h
  | [], _, _, _, _, _, _, _, _, _, h1, _, _, _, _, _, _ => by simp at h1
  | _ :: _, [], _, _, _, _, _, _, _, _, _, h2, _, _, _, _, _ => by simp at h2
end

theorem firstK_get : ∀ {k i j : Nat}, j < k → (firstK i k)[j]? = some (.blk (i + j))
  | k + 1, i, 0, _ => rfl
  | k + 1, i, j + 1, h => by
    simp only [firstK, List.getElem?_cons_succ]
    rw [firstK_get (by omega)]
    congr 2; omega

theorem firstK_length : ∀ {k i : Nat}, (firstK i k).length = k
  | 0, _ => rfl
  | k + 1, i => by simp [firstK, firstK_length]

theorem firstK_ok {φ : Phi} {k : Nat} (h : k ≤ φ.length) : All2 (SrcOK φ) (firstK 0 k) (φ.take k) := by
  refine All2.of_get (by rw [firstK_length]; simp; omega) fun i a b h1 h2 => ?_
  have hi : i < k := by have := get_lt h1; rw [firstK_length] at this; exact this
  rw [firstK_get hi] at h1
  cases h1
  rw [List.getElem?_take, if_pos hi] at h2
  simpa [SrcOK] using h2

def Img (φ : Phi) (H : AH) (σ : List Src) (φ' : Phi) (H' : AH) : Prop := ∀ (j : Nat) (B : Blk) (L : Loc) (x : Nat), H'[j]? = some (some B) → φ'[j]? = some L → B.foot φ' L x →
  ∃ s c B0 L0, σ[j]? = some s ∧ s.cid = some c ∧ H[c]? = some (some B0) ∧ φ[c]? = some L0 ∧ B0.foot φ L0 x ∧ (B.mut = true → B0.mut = true ∧ s = .blk c)

theorem takeF_sound {φ : Phi} {H : AH} {heap : Array Obj} {k : Nat} {sh : FSh} {ts : List TV} {vs : List Value} {σ : List Src} {l : List At} (h : takeF k sh ts H = some (σ, l)) (hrep : Rep φ H heap) (hk : k ≤ H.length) (hts : All2 (relT φ) ts vs) :
    ∃ φ', All2 (SrcOK φ) σ φ' ∧ Rep φ' (mkH sh l) heap ∧ All2 (relT φ') (mkV sh l) vs ∧ (∀ j, j < k → φ'[j]? = φ[j]? ∧ σ[j]? = some (.blk j)) ∧ Img φ H σ φ' (mkH sh l) := by
  unfold takeF at h
  split at h
  · rename_i σ1 x h1
    split at h
    · rename_i σ2 y h2
      split at h
      · rename_i hlen hap
        cases h
        have hlen := Nat.eq_of_beq_eq_true hlen
        obtain ⟨ψ, e1, e2, τ, e3⟩ := takeTs_sound hrep.len h1 (firstK_ok (by rw [hrep.len]; exact hk)) hts
        obtain ⟨ψ', f1, f2, τ', f3⟩ := takeBs_sound hrep h2 e1
        have e2' := e2.mono ψ'
        have hfirst : ∀ j, j < k → (φ.take k ++ ψ ++ ψ')[j]? = φ[j]? ∧ σ[j]? = some (.blk j) := by
          intro j hj
          have hjl : j < (φ.take k).length := by simp; have := hrep.len; omega
          refine ⟨?_, ?_⟩
          · rw [List.append_assoc, List.getElem?_append_left hjl, List.getElem?_take, if_pos hj]
          · rw [f3, e3, List.append_assoc, List.getElem?_append_left (by rw [firstK_length]; exact hj), firstK_get hj, Nat.zero_add]
        generalize φ.take k ++ ψ ++ ψ' = φ' at f1 f2 e2' hfirst
        have hx := tRels_len e2'
        have hlx : AtIs (x ++ y) 0 x := fun j a hj => by rw [Nat.zero_add, List.getElem?_append_left (get_lt hj)]; exact hj
        have hly : AtIs (x ++ y) (tshsW sh.vals) y := fun j a hj => by rw [← hx, List.getElem?_append_right (by omega)]; simpa using hj
        have hφ : φ'.length = sh.hp.length := by rw [← f1.length_eq, hlen]
        have hns : NsOK sh.hp φ' (mkNs (x ++ y) (tshsW sh.vals) sh.hp) := by
          intro id L hr hL
          unfold isRows at hr
          split at hr
          · rename_i ks own hb
            obtain ⟨a, L', s, i', g1, g2, g3, g4, g5, g6, g7⟩ := bRels_get f2 hly hb
            rw [Nat.zero_add, hL] at g1
            cases g1
            rw [List.getD_eq_getElem?_getD, g7]
            obtain ⟨n, g, rfl, q1, q2⟩ := g3
            have := g5 0 _ rfl
            simp only [Nat.add_zero] at this
            simp only [Option.getD_some, aRn, this]
            exact q1.symm
          · rename_i ks c0 ms f bel own hb
            obtain ⟨a, L', s, i', g1, g2, g3, g4, g5, g6, g7⟩ := bRels_get f2 hly hb
            rw [Nat.zero_add, hL] at g1
            cases g1
            rw [List.getD_eq_getElem?_getD, g7]
            cases bel with
            | false =>
              obtain ⟨n, g, h', rfl, q1, q2⟩ := g3
              have := g5 0 _ rfl
              simp only [Nat.add_zero] at this
              simp only [Option.getD_some, aRn, this]
              exact q1.symm
            | true =>
              obtain ⟨n, g, h', k, rfl, q1, q2⟩ := g3
              have := g5 1 _ rfl
              simp only [Option.getD_some, aRn, this]
              exact q1.symm
          · cases hr
        have hget : ∀ (j : Nat) (B : Blk), (mkH sh (x ++ y))[j]? = some (some B) → ∃ b L s, sh.hp[j]? = some b ∧ φ'[j]? = some L ∧ σ[j]? = some s ∧ RepB φ' L heap B ∧ B.mut = b.mut ∧ b ≠ .no ∧ ∀ x, B.foot φ' L x → ∃ c B0 L0, s.cid = some c ∧ H[c]? = some (some B0) ∧ φ[c]? = some L0 ∧ B0.foot φ L0 x ∧ (b.mut = true → B0.mut = true ∧ s = .blk c) := by
          intro j B hB
          have hj : j < sh.hp.length := by have := get_lt hB; rw [mkH, mkBs_length] at this; exact this
          have hb : sh.hp[j]? = some sh.hp[j] := List.getElem?_eq_getElem hj
          obtain ⟨a, L, s, i', g1, g2, g3, g4, g5, g6, g7⟩ := bRels_get f2 hly hb
          rw [Nat.zero_add] at g1 g2
          have e := g6 (mkNs (x ++ y) (tshsW sh.vals) sh.hp)
          rw [mkH] at hB
          rw [hB] at e
          obtain ⟨q1, q2, q3⟩ := bRel_rep hns g3 g5 (Option.some.inj e).symm
          exact ⟨_, L, s, hb, g1, g2, q1, q2, q3, fun x hx => g4 [] x B _ _ i' g5 (Option.some.inj e).symm (by simpa using hx)⟩
        have hImg : Img φ H σ φ' (mkH sh (x ++ y)) := by
          intro j B L b hB hL hf
          obtain ⟨bb, L', s, g1, g2, g3, g4, g5, g6, g7⟩ := hget j B hB
          rw [hL] at g2; cases g2
          obtain ⟨c, B0, L0, q1, q2, q3, q4, q5⟩ := g7 b hf
          exact ⟨s, c, B0, L0, g3, q1, q2, q3, q4, fun hm => q5 (by rw [← g5]; exact hm)⟩
        refine ⟨φ', f1, ⟨by rw [hφ, mkH, mkBs_length], ?_, ?_⟩, mkTVs_rel hns e2' hlx, hfirst, hImg⟩
        · intro id B hB
          obtain ⟨b, L, s, _, g2, _, g4, _⟩ := hget id B hB
          exact ⟨L, g2, g4⟩
        · intro id id' B B' L L' b hB hB' hL hL' hne hm z z'
          obtain ⟨bb, _, s, g1, _, g3, _, g5, g6, _⟩ := hget id B hB
          obtain ⟨bb', _, s', g1', _, g3', _, g5', g6', _⟩ := hget id' B' hB'
          obtain ⟨t, c, B0, L0, p1, p2, p3, p4, p5, p6⟩ := hImg id B L b hB hL z
          obtain ⟨t', c', B0', L0', p1', p2', p3', p4', p5', p6'⟩ := hImg id' B' L' b hB' hL' z'
          rw [g3] at p1; cases p1
          rw [g3'] at p1'; cases p1'
          have hmb : bb.mut = true := by rw [← g5]; exact hm
          by_cases hcc : c = c'
          · subst hcc
            rcases Nat.lt_or_gt_of_ne hne with hlt | hlt
            · exact apartSs_spec hap hlt g3 g1 g3' g1' (by rw [hmb, not_no g6, not_no g6']; rfl) p2 p2'
            · exact apartSs_spec hap hlt g3' g1' g3 g1 (by rw [hmb, not_no g6, not_no g6']; simp) p2' p2
          · exact hrep.apart c c' B0 B0' L0 L0' b p3 p3' p4 p4' hcc (p6 hm).1 p5 p5'
      · cases h
    · cases h
  · cases h
end Go.AM
end

/-
  The abstract machine, part 21: back from a function's own memory to its caller's.
-/
section
namespace Go.AM

/-! ### rows that are the same as far as they go -/

def AtEq : At → At → Prop
  | .r n g, .r n' g' => n = n' ∧ ∀ i, i < n → ∀ c, g i c = g' i c
  | .q n g c0 wd h, .q n' g' c0' wd' h' => n = n' ∧ c0 = c0' ∧ wd = wd' ∧ (∀ i, i < n → ∀ c, g i c = g' i c) ∧ ∀ i, i < n → ∀ k, k < (g i c0).toNat * wd → h i k = h' i k
  | a, b => a = b

def AtsEq : List At → List At → Prop := All2 AtEq

theorem AtEq.refl (a : At) : AtEq a a := by cases a <;> first | rfl | exact ⟨rfl, fun _ _ _ => rfl⟩ | exact ⟨rfl, rfl, rfl, fun _ _ _ => rfl, fun _ _ _ _ => rfl⟩
theorem AtsEq.refl (l : List At) : AtsEq l l := All2.of_get rfl fun i a b h1 h2 => by rw [h1] at h2; cases h2; exact AtEq.refl a

section
variable {l l' : List At}

theorem atsEq_get (h : AtsEq l l') (i : Nat) : (l[i]? = none ∧ l'[i]? = none) ∨ ∃ a a', l[i]? = some a ∧ l'[i]? = some a' ∧ AtEq a a' := by
  cases h1 : l[i]? with
  | some a => obtain ⟨a', h2, h3⟩ := h.get h1; exact .inr ⟨a, a', rfl, h2, h3⟩
  | none =>
    cases h2 : l'[i]? with
    | some a' => obtain ⟨a, h3, _⟩ := h.get_r h2; rw [h1] at h3; cases h3
    | none => exact .inl ⟨rfl, rfl⟩

theorem atEq_aI (h : AtsEq l l') (i : Nat) : aI l i = aI l' i := by
  rcases atsEq_get h i with ⟨h1, h2⟩ | ⟨a, a', h1, h2, h3⟩
  · simp only [aI, h1, h2]
  · simp only [aI, h1, h2]; cases a <;> cases a' <;> simp_all [AtEq]
theorem atEq_aB (h : AtsEq l l') (i : Nat) : aB l i = aB l' i := by
  rcases atsEq_get h i with ⟨h1, h2⟩ | ⟨a, a', h1, h2, h3⟩
  · simp only [aB, h1, h2]
  · simp only [aB, h1, h2]; cases a <;> cases a' <;> simp_all [AtEq]
theorem atEq_aN (h : AtsEq l l') (i : Nat) : aN l i = aN l' i := by
  rcases atsEq_get h i with ⟨h1, h2⟩ | ⟨a, a', h1, h2, h3⟩
  · simp only [aN, h1, h2]
  · simp only [aN, h1, h2]; cases a <;> cases a' <;> simp_all [AtEq]
theorem atEq_aRn (h : AtsEq l l') (i : Nat) : aRn l i = aRn l' i := by
  rcases atsEq_get h i with ⟨h1, h2⟩ | ⟨a, a', h1, h2, h3⟩
  · simp only [aRn, h1, h2]
  · simp only [aRn, h1, h2]; cases a <;> cases a' <;> simp_all [AtEq]
theorem atEq_aRg (h : AtsEq l l') (i j c : Nat) (hj : j < aRn l i) : aRg l i j c = aRg l' i j c := by
  rcases atsEq_get h i with ⟨h1, h2⟩ | ⟨a, a', h1, h2, h3⟩
  · simp only [aRg, h1, h2]
  · simp only [aRn, h1] at hj
    simp only [aRg, h1, h2]; cases a <;> cases a' <;> simp_all [AtEq]

theorem atEq_aMh (h : AtsEq l l') (i c0 wd j k : Nat) (hj : j < aRn l i) (hk : k < (aRg l i j c0).toNat * wd) : aMh l i c0 wd j k = aMh l' i c0 wd j k := by
  rcases atsEq_get h i with ⟨h1, h2⟩ | ⟨a, a', h1, h2, h3⟩
  · simp only [aMh, h1, h2]
  · cases a <;> cases a' <;> first
      | (simp only [aMh, h1, h2]; done)
      | (cases h3; done)
      | (obtain ⟨rfl, rfl, rfl, e4, e5⟩ := h3
         simp only [aRn, aRg, h1] at hj hk
         simp only [aMh, h1, h2]
         rename_i c1 wd1 _ _ _
         cases hb : Nat.beq c0 c1 with
         | false => rfl
         | true =>
           cases hb' : Nat.beq wd wd1 with
           | false => rfl
           | true =>
             have := Nat.eq_of_beq_eq_true hb
             subst this
             have := Nat.eq_of_beq_eq_true hb'
             subst this
             exact e5 j hj k hk)

theorem mkSh_eq (h : AtsEq l l') (ns : List Nat) (i : Nat) (s : Sh) : mkSh ns l i s = mkSh ns l' i s := by
  cases s with
  | k sk => cases sk <;> simp only [mkSh, atEq_aI h, atEq_aB h]
  | _ => simp only [mkSh, atEq_aN h]
theorem mkShs_eq (h : AtsEq l l') (ns : List Nat) : ∀ (i : Nat) (s : List Sh), mkShs ns l i s = mkShs ns l' i s
  | _, [] => rfl
  | i, s :: r => by simp only [mkShs, mkSh_eq h, mkShs_eq h ns _ r]
theorem mkAVS_eq (h : AtsEq l l') (ns : List Nat) (i : Nat) : ∀ (s : Bool × List Sh), mkAVS ns l i s = mkAVS ns l' i s
  | (true, _) => by simp only [mkAVS, mkShs_eq h]
  | (false, _ :: _) => by simp only [mkAVS, mkSh_eq h]
  | (false, []) => rfl
theorem mkAVSs_eq (h : AtsEq l l') (ns : List Nat) : ∀ (i : Nat) (s : List (Bool × List Sh)), mkAVSs ns l i s = mkAVSs ns l' i s
  | _, [] => rfl
  | i, s :: r => by simp only [mkAVSs, mkAVS_eq h, mkAVSs_eq h ns _ r]
theorem mkTV_eq (h : AtsEq l l') (ns : List Nat) (i : Nat) (s : TSh) : mkTV ns l i s = mkTV ns l' i s := by
  cases s <;> simp only [mkTV, mkAVS_eq h, mkAVSs_eq h]
theorem mkTVs_eq (h : AtsEq l l') (ns : List Nat) : ∀ (i : Nat) (s : List TSh), mkTVs ns l i s = mkTVs ns l' i s
  | _, [] => rfl
  | i, s :: r => by simp only [mkTVs, mkTV_eq h, mkTVs_eq h ns _ r]
theorem mkNs_eq (h : AtsEq l l') : ∀ (i : Nat) (s : List BSh), mkNs l i s = mkNs l' i s
  | _, [] => rfl
  | i, s :: r => by simp only [mkNs, mkNs_eq h _ r, atEq_aRn h]
theorem mkV_eq (h : AtsEq l l') (sh : FSh) : mkV sh l = mkV sh l' := by simp only [mkV, mkNs_eq h, mkTVs_eq h]

def BlkEq : Option Blk → Option Blk → Prop
  | some (.rows ks n g own), some (.rows ks' n' g' own') => ks = ks' ∧ n = n' ∧ own = own' ∧ ∀ i, i < n → ∀ c, g i c = g' i c
  | some (.nrows ks c0 ms n g h F ow own), some (.nrows ks' c0' ms' n' g' h' F' ow' own') => ks = ks' ∧ c0 = c0' ∧ ms = ms' ∧ n = n' ∧ F = F' ∧ ow = ow' ∧ own = own' ∧ (∀ i, i < n → ∀ c, g i c = g' i c) ∧ ∀ i, i < n → ∀ k, k < (g i c0).toNat * ms.length → h i k = h' i k
  | a, b => a = b

theorem mkB_eq (h : AtsEq l l') (ns : List Nat) (i : Nat) (s : BSh) : BlkEq (mkB ns l i s) (mkB ns l' i s) := by
  cases s with
  | no => rfl
  | cells r => exact congrArg (fun x => some (Blk.cells x)) (mkShs_eq h ns i r)
  | roc r => exact congrArg (fun x => some (Blk.roc x)) (mkShs_eq h ns i r)
  | rows ks own => exact ⟨rfl, atEq_aRn h i, rfl, fun j hj c => atEq_aRg h i j c hj⟩
  | nrows ks c0 ms f bel own =>
    cases bel with
    | false => exact ⟨rfl, rfl, rfl, atEq_aRn h i, rfl, rfl, rfl, fun j hj c => atEq_aRg h i j c hj, fun j hj k hk => atEq_aMh h i c0 ms.length j k hj hk⟩
    | true => exact ⟨rfl, rfl, rfl, atEq_aRn h (i + 1), rfl, by rw [atEq_aN h], rfl, fun j hj c => atEq_aRg h (i + 1) j c hj, fun j hj k hk => atEq_aMh h (i + 1) c0 ms.length j k hj hk⟩

theorem mkBs_eq (h : AtsEq l l') (ns : List Nat) : ∀ (i : Nat) (s : List BSh), All2 BlkEq (mkBs ns l i s) (mkBs ns l' i s)
  | _, [] => trivial
  | i, s :: r => ⟨mkB_eq h ns i s, mkBs_eq h ns _ r⟩

theorem BlkEq.same {B B' : Blk} (h : BlkEq (some B) (some B')) : B.mut = B'.mut ∧ (∀ φ L x, B.foot φ L x ↔ B'.foot φ L x) ∧ ∀ {φ L heap}, RepB φ L heap B → RepB φ L heap B' := by
  unfold BlkEq at h
  split at h
  · rename_i ks n g own ks' n' g' own' e1 e2
    cases e1; cases e2
    obtain ⟨rfl, rfl, rfl, hg⟩ := h
    refine ⟨rfl, fun _ _ _ => Iff.rfl, fun {φ L heap} hB => ?_⟩
    obtain ⟨h1, h2, h3⟩ := hB
    exact ⟨h1, h2, h3.imp id fun ⟨cs, t, fr, k1, k2, k3, k4⟩ => ⟨cs, t, fr, k1, k2, k3, fun i c sk hi hc => by rw [← hg i hi c]; exact k4 i c sk hi hc⟩⟩
  · rename_i ks c0 ms n g hh F ow own ks' c0' ms' n' g' hh' F' ow' own' e1 e2
    cases e1; cases e2
    obtain ⟨rfl, rfl, rfl, rfl, rfl, rfl, rfl, hg, hm⟩ := h
    refine ⟨rfl, fun _ _ _ => Iff.rfl, fun {φ L heap} hB => ?_⟩
    obtain ⟨h1, h2, h3, LF, hF, h4, h5, h6⟩ := hB
    refine ⟨h1, h2, h3, LF, hF, h4.imp id fun ⟨cs, t, fr, k1, k2, k3, k4⟩ => ⟨cs, t, fr, k1, k2, k3, fun i c sk hi hc => by rw [← hg i hi c]; exact k4 i c sk hi hc⟩, fun i hi ho => ?_, h6⟩
    obtain ⟨q1, q2⟩ := h5 i hi ho
    rw [hg i hi c0] at q1 q2
    refine ⟨q1, ?_⟩
    rcases q2 with q | ⟨b, o, cap, cs, t, fr, k1, k2, k3, k4, k5, k6, k7⟩
    · exact .inl q
    · refine .inr ⟨b, o, cap, cs, t, fr, k1, k2, k3, k4, k5, k6, fun j c sk hj hc => ?_⟩
      rw [← hm i hi _ (by rw [hg i hi c0]; exact idx_lt hj (get_lt hc))]
      exact k7 j c sk hj hc
  · cases h
    exact ⟨rfl, fun _ _ _ => Iff.rfl, fun h => h⟩

theorem BlkEq.none_l {b : Option Blk} (h : BlkEq none b) : b = none := by cases b <;> simp [BlkEq] at h ⊢
theorem rep_eq {φ : Phi} {H H' : AH} {heap : Array Obj} (h : Rep φ H heap) (he : All2 BlkEq H H') : Rep φ H' heap := by
  have get : ∀ {id : Nat} {B' : Blk}, H'[id]? = some (some B') → ∃ B, H[id]? = some (some B) ∧ BlkEq (some B) (some B') := by
    intro id B' hB
    obtain ⟨b, h1, h2⟩ := he.get_r hB
    cases b with
    | none => have := h2.none_l; cases this
    | some B => exact ⟨B, h1, h2⟩
  refine ⟨by rw [h.len, he.length_eq], ?_, ?_⟩
  · intro id B' hB
    obtain ⟨B, h1, h2⟩ := get hB
    obtain ⟨L, h3, h4⟩ := h.blk id B h1
    exact ⟨L, h3, h2.same.2.2 h4⟩
  · intro id id' B B' L L' b hB hB' hL hL' hne hm z z'
    obtain ⟨C, h1, h2⟩ := get hB
    obtain ⟨C', h1', h2'⟩ := get hB'
    exact h.apart id id' C C' L L' b h1 h1' hL hL' hne (by rw [h2.same.1]; exact hm) ((h2.same.2.1 _ _ _).2 z) ((h2'.same.2.1 _ _ _).2 z')

theorem mkH_eq (h : AtsEq l l') (sh : FSh) : All2 BlkEq (mkH sh l) (mkH sh l') := by
  unfold mkH
  rw [mkNs_eq h]
  exact mkBs_eq h _ _ _

theorem ext_eq {φ0 : Phi} {H0 : AH} {w : World} {φ : Phi} {H H' : AH} {w' : World} (h : Ext φ0 H0 w φ H w') (he : All2 BlkEq H H') : Ext φ0 H0 w φ H' w' := by
  refine ⟨⟨h.size, h.pre, h.frame, ?_⟩, h.os, h.output, h.tape⟩
  intro id B' L b hB hL hf
  obtain ⟨o, h1, h2⟩ := he.get_r hB
  cases o with
  | none => have := h2.none_l; cases this
  | some B =>
    rcases h.img id B L b h1 hL ((h2.same.2.1 _ _ _).2 hf) with h' | ⟨id0, B0, L0, e1, e2, e3, e4⟩
    · exact .inl h'
    · exact .inr ⟨id0, B0, L0, e1, e2, e3, fun hm => e4 (by rw [h2.same.1]; exact hm)⟩
end

theorem ext_take {φ0 : Phi} {H0 : AH} {w w' : World} {φ : Phi} {H : AH} {sh : FSh} {ts : List TV} {vs : List Value} {σ : List Src} {l : List At} (h : takeF H0.length sh ts H = some (σ, l)) (h0 : φ0.length = H0.length) (hE : Ext φ0 H0 w φ H w') (hrep : Rep φ H w'.heap) (hts : All2 (relT φ) ts vs) :
    ∃ φ', Rep φ' (mkH sh l) w'.heap ∧ All2 (relT φ') (mkV sh l) vs ∧ Ext φ0 H0 w φ' (mkH sh l) w' ∧ ∀ j, j < H0.length → φ'[j]? = φ0[j]? := by
  obtain ⟨ψ, rfl⟩ := hE.pre
  have hle : H0.length ≤ H.length := by have := hrep.len; simp at this; omega
  obtain ⟨φ', h1, h2, h3, h4, h5⟩ := takeF_sound h hrep hle hts
  have hfirst : ∀ j, j < H0.length → φ'[j]? = φ0[j]? := by
    intro j hj
    rw [(h4 j hj).1, List.getElem?_append_left (by omega)]
  refine ⟨φ', h2, h3, ⟨⟨hE.size, ⟨φ'.drop H0.length, ?_⟩, hE.frame, ?_⟩, hE.os, hE.output, hE.tape⟩, hfirst⟩
  · apply List.ext_getElem?
    intro i
    by_cases hi : i < H0.length
    · rw [hfirst i hi, List.getElem?_append_left (by omega)]
    · rw [List.getElem?_append_right (by omega), List.getElem?_drop]
      congr 1; omega
  · intro id B L b hB hL hf
    obtain ⟨s, c, B0, L0, p1, p2, p3, p4, p5, p6⟩ := h5 id B L b hB hL hf
    rcases hE.img c B0 L0 b p3 p4 p5 with h' | ⟨id0, B1, L1, e1, e2, e3, e4⟩
    · exact .inl h'
    · exact .inr ⟨id0, B1, L1, e1, e2, e3, fun hm => e4 (p6 hm).1⟩
end Go.AM
end

/-
  The abstract machine, part 22: a function that is told of its own memory, called in another one.
-/
section
namespace Go.AM

def gId (σ : List Src) (N : Nat) (id : Nat) : Option Nat :=
  match σ[id]? with
  | some (.blk c) => some c
  | some .fresh => some (N + id)
  | none => some (N + id)
  | _ => none

def renCaps (σ : List Src) (N : Nat) : List (Nat × Nat) → Option (List (Nat × Nat))
  | [] => some []
  | c :: r => match gId σ N c.1 with
    | some id => match renCaps σ N r with
      | some r' => some ((id, c.2) :: r')
      | none => none
    | none => none

def renS (σ : List Src) (N : Nat) : AS → Option AS
  | .p id o => (gId σ N id).map fun id => .p id o
  | .pr id wd i c => (gId σ N id).map fun id => .pr id wd i c
  | .px id wd i o n len j c => (gId σ N id).map fun id => .px id wd i o n len j c
  | .sl id wd o len => (gId σ N id).map fun id => .sl id wd o len
  | .slr id wd i len cp => (gId σ N id).map fun id => .slr id wd i len cp
  | .slc id wd i len => (gId σ N id).map fun id => .slc id wd i len
  | .slq id wd i len => (gId σ N id).map fun id => .slq id wd i len
  | .slw id wd n => (gId σ N id).map fun id => .slw id wd n
  | .opq id => match σ[id]? with
    | some (.opq a) => some a
    | some (.blk c) => some (.opq c)
    | _ => none
  | .fn f caps => (renCaps σ N caps).map fun caps => .fn f caps
  | .b x => some (.b x)
  | .n k x => some (.n k x)
  | .pnil => some .pnil
  | .slnil => some .slnil
  | .str l => some (.str l)
  | .fnil => some .fnil
  | .slk .. => none
  | .sld .. => none
  | .slz id wd i len => (gId σ N id).map fun id => .slz id wd i len
  | .mem id F wd i len => match gId σ N id, gId σ N F with
    | some id, some F => some (.mem id F wd i len)
    | _, _ => none
  | .mems id F wd i lo len => match gId σ N id, gId σ N F with
    | some id, some F => some (.mems id F wd i lo len)
    | _, _ => none
  | .mpx .. => none
  | .sle => some .sle

def renL (σ : List Src) (N : Nat) : List AS → Option (List AS)
  | [] => some []
  | a :: r => match renS σ N a with
    | some a' => match renL σ N r with
      | some r' => some (a' :: r')
      | none => none
    | none => none

def renA (σ : List Src) (N : Nat) : AV → Option AV
  | .s a => (renS σ N a).map .s
  | .agg l => (renL σ N l).map .agg

def renAs (σ : List Src) (N : Nat) : List AV → Option (List AV)
  | [] => some []
  | a :: r => match renA σ N a with
    | some a' => match renAs σ N r with
      | some r' => some (a' :: r')
      | none => none
    | none => none

def renT (σ : List Src) (N : Nat) : TV → Option TV
  | .v a => (renA σ N a).map .v
  | .tup l => (renAs σ N l).map .tup
  | .k b => some (.k b)
  | .any => some .any

def renB (σ : List Src) (N : Nat) : Blk → Option Blk
  | .cells l => (renL σ N l).map .cells
  | .rows ks n g true => some (.rows ks n g true)
  | .nrows ks c0 ms n g h F ow true => (gId σ N F).map fun F => .nrows ks c0 ms n g h F ow true
  | _ => none

section
variable {φ φl : Phi} {σ : List Src}

structure Bound (φ : Phi) (σ : List Src) (φl : Phi) : Prop where
  blk : ∀ (j c : Nat), σ[j]? = some (.blk c) → φl[j]? = φ[c]?
  opq : ∀ (j : Nat) (a : AS) (L : Loc), σ[j]? = some (.opq a) → φl[j]? = some L → relS φ a L.x.val

theorem gId_get (hb : Bound φ σ φl) {id id' : Nat} {L : Loc} (h : gId σ φ.length id = some id') (hL : φl[id]? = some L) : (φ ++ φl)[id']? = some L := by
  have more : (φ ++ φl)[φ.length + id]? = some L := by rw [List.getElem?_append_right (by omega)]; simpa using hL
  unfold gId at h
  split at h
  · rename_i c hc
    cases h
    rw [hb.blk _ _ hc] at hL
    exact get_prefix hL
  · cases h; exact more
  · cases h; exact more
  · cases h

theorem renCaps_rel (hb : Bound φ σ φl) : ∀ {caps caps' : List (Nat × Nat)} {cs : List Value}, renCaps σ φ.length caps = some caps' → All2 (fun (c : Nat × Nat) u => ∃ L, φl[c.1]? = some L ∧ u = .pointer (some ⟨L.b, L.base + c.2, none⟩)) caps cs →
    All2 (fun (c : Nat × Nat) u => ∃ L, (φ ++ φl)[c.1]? = some L ∧ u = .pointer (some ⟨L.b, L.base + c.2, none⟩)) caps' cs
  | [], caps', cs, h, hc => by cases h; cases cs with | nil => trivial | cons _ _ => exact hc.elim
  | c :: r, caps', cs, h, hc => by
    simp only [renCaps] at h
    split at h
    · rename_i id hid
      split at h
      · rename_i r' hr
        cases h
        cases cs with
        | nil => exact hc.elim
        | cons u cs =>
          obtain ⟨⟨L, hL, hu⟩, hcs⟩ := hc
          exact ⟨⟨L, gId_get hb hid hL, hu⟩, renCaps_rel hb hr hcs⟩
      · cases h
    · cases h

theorem renS_rel (hb : Bound φ σ φl) {a a' : AS} {v : Value} (h : renS σ φ.length a = some a') (hv : relS φl a v) : relS (φ ++ φl) a' v := by
  unfold renS at h
  split at h
  · obtain ⟨id, h1, rfl⟩ := Option.map_eq_some_iff.1 h
    obtain ⟨L, hL, hv⟩ := hv; exact ⟨L, gId_get hb h1 hL, hv⟩
  · obtain ⟨id, h1, rfl⟩ := Option.map_eq_some_iff.1 h
    obtain ⟨L, hL, hv⟩ := hv; exact ⟨L, gId_get hb h1 hL, hv⟩
  · obtain ⟨id, h1, rfl⟩ := Option.map_eq_some_iff.1 h
    obtain ⟨L, hL, hv⟩ := hv; exact ⟨L, gId_get hb h1 hL, hv⟩
  · obtain ⟨id, h1, rfl⟩ := Option.map_eq_some_iff.1 h
    rcases hv with hv | ⟨L, cap, hL, hv⟩
    · exact .inl hv
    · exact .inr ⟨L, cap, gId_get hb h1 hL, hv⟩
  · obtain ⟨id, h1, rfl⟩ := Option.map_eq_some_iff.1 h
    rcases hv with hv | ⟨L, cap, hL, hv⟩
    · exact .inl hv
    · exact .inr ⟨L, cap, gId_get hb h1 hL, hv⟩
  · obtain ⟨id, h1, rfl⟩ := Option.map_eq_some_iff.1 h
    rcases hv with hv | ⟨L, hL, hv⟩
    · exact .inl hv
    · exact .inr ⟨L, gId_get hb h1 hL, hv⟩
  · obtain ⟨id, h1, rfl⟩ := Option.map_eq_some_iff.1 h
    rcases hv with hv | ⟨L, cap, hL, hv⟩
    · exact .inl hv
    · exact .inr ⟨L, cap, gId_get hb h1 hL, hv⟩
  · obtain ⟨id, h1, rfl⟩ := Option.map_eq_some_iff.1 h
    obtain ⟨L, hL, hv⟩ := hv; exact ⟨L, gId_get hb h1 hL, hv⟩
  · obtain ⟨L, hL, hv, hk⟩ := hv
    split at h
    · rename_i a hs
      cases h
      rw [hv]
      exact relS.mono _ (hb.opq _ _ _ hs hL)
    · rename_i c hs
      cases h
      rw [hb.blk _ _ hs] at hL
      exact ⟨L, get_prefix hL, hv, hk⟩
    · cases h
  · obtain ⟨caps, h1, rfl⟩ := Option.map_eq_some_iff.1 h
    obtain ⟨cs, e1, e2⟩ := hv
    exact ⟨cs, e1, renCaps_rel hb h1 e2⟩
  case h_19 =>
    obtain ⟨id, h1, rfl⟩ := Option.map_eq_some_iff.1 h
    rcases hv with hv | ⟨L, cap, hL, hv⟩
    · exact .inl hv
    · exact .inr ⟨L, cap, gId_get hb h1 hL, hv⟩
  case h_20 =>
    split at h
    · rename_i h1 h2
      cases h
      obtain ⟨L, LF, hL, hF, hv⟩ := hv
      exact ⟨L, LF, gId_get hb h1 hL, gId_get hb h2 hF, hv⟩
    · cases h
  case h_21 =>
    split at h
    · rename_i h1 h2
      cases h
      rcases hv with hv | ⟨L, LF, b, o, l0, c0, cap, hL, hF, hv⟩
      · exact .inl hv
      · exact .inr ⟨L, LF, b, o, l0, c0, cap, gId_get hb h1 hL, gId_get hb h2 hF, hv⟩
    · cases h
  all_goals first | (cases h; done) | (cases h; exact hv)

theorem renL_rel (hb : Bound φ σ φl) : ∀ {l l' : List AS} {vs : List Value}, renL σ φ.length l = some l' → All2 (relS φl) l vs → All2 (relS (φ ++ φl)) l' vs
  | [], l', vs, h, hv => by cases h; cases vs with | nil => trivial | cons _ _ => exact hv.elim
  | a :: r, l', vs, h, hv => by
    simp only [renL] at h
    split at h
    · rename_i a' ha
      split at h
      · rename_i r' hr
        cases h
        cases vs with
        | nil => exact hv.elim
        | cons v vs => exact ⟨renS_rel hb ha hv.1, renL_rel hb hr hv.2⟩
      · cases h
    · cases h

theorem renL_len : ∀ {l l' : List AS} {N : Nat}, renL σ N l = some l' → l'.length = l.length
  | [], l', _, h => by cases h; rfl
  | a :: r, l', _, h => by
    simp only [renL] at h
    split at h
    · split at h
      · rename_i r' hr
        cases h
        simp [renL_len hr]
      · cases h
    · cases h

theorem renA_rel (hb : Bound φ σ φl) {a a' : AV} {v : Value} (h : renA σ φ.length a = some a') (hv : relA φl a v) : relA (φ ++ φl) a' v := by
  cases a with
  | s a => obtain ⟨x, h1, rfl⟩ := Option.map_eq_some_iff.1 h; exact renS_rel hb h1 hv
  | agg l => obtain ⟨x, h1, rfl⟩ := Option.map_eq_some_iff.1 h; obtain ⟨cs, e1, e2⟩ := hv; exact ⟨cs, e1, renL_rel hb h1 e2⟩

theorem renAs_rel (hb : Bound φ σ φl) : ∀ {l l' : List AV} {vs : List Value}, renAs σ φ.length l = some l' → All2 (relA φl) l vs → All2 (relA (φ ++ φl)) l' vs
  | [], l', vs, h, hv => by cases h; cases vs with | nil => trivial | cons _ _ => exact hv.elim
  | a :: r, l', vs, h, hv => by
    simp only [renAs] at h
    split at h
    · rename_i a' ha
      split at h
      · rename_i r' hr
        cases h
        cases vs with
        | nil => exact hv.elim
        | cons v vs => exact ⟨renA_rel hb ha hv.1, renAs_rel hb hr hv.2⟩
      · cases h
    · cases h

theorem renT_rel (hb : Bound φ σ φl) {a a' : TV} {v : Value} (h : renT σ φ.length a = some a') (hv : relT φl a v) : relT (φ ++ φl) a' v := by
  cases a with
  | v a => obtain ⟨x, h1, rfl⟩ := Option.map_eq_some_iff.1 h; exact renA_rel hb h1 hv
  | tup l => obtain ⟨x, h1, rfl⟩ := Option.map_eq_some_iff.1 h; obtain ⟨cs, e1, e2⟩ := hv; exact ⟨cs, e1, renAs_rel hb h1 e2⟩
  | k b => cases h; exact hv
  | any => cases h; trivial

theorem renB_rep (hb : Bound φ σ φl) {B B' : Blk} {L : Loc} {heap : Array Obj} (h : renB σ φ.length B = some B') (hB : RepB φl L heap B) : RepB (φ ++ φl) L heap B' := by
  unfold renB at h
  split at h
  · obtain ⟨x, h1, rfl⟩ := Option.map_eq_some_iff.1 h
    obtain ⟨e1, e2, e3⟩ := hB
    exact ⟨e1, by rw [renL_len h1]; exact e2, e3.imp id fun ⟨cs, t, e4, e5⟩ => ⟨cs, t, e4, renL_rel hb h1 e5⟩⟩
  · cases h
    obtain ⟨e1, e2, e3⟩ := hB
    exact ⟨e1, e2, e3.imp id fun ⟨cs, t, fr, k1, k2, k3, k4⟩ => ⟨cs, t, fr, k1, k2, k3, fun i c sk hi hc => let ⟨v, q1, q2⟩ := k4 i c sk hi hc; ⟨v, q1, by cases sk <;> exact q2⟩⟩⟩
  · obtain ⟨x, h1, rfl⟩ := Option.map_eq_some_iff.1 h
    obtain ⟨e1, e2, e3, LF, hF, h4, h5, h6⟩ := hB
    refine ⟨e1, e2, e3, LF, gId_get hb h1 hF, h4.imp id fun ⟨cs, t, fr, k1, k2, k3, k4⟩ => ⟨cs, t, fr, k1, k2, k3, fun i c sk hi hc => let ⟨v, q1, q2, q3⟩ := k4 i c sk hi hc; ⟨v, q1, fun hne => by have := q2 hne; cases sk <;> exact this, q3⟩⟩, fun i hi ho => ⟨(h5 i hi ho).1, ?_⟩, h6⟩
    rcases (h5 i hi ho).2 with q | ⟨b, o, cap, cs, t, fr, k1, k2, k3, k4, k5, k6, k7⟩
    · exact .inl q
    · exact .inr ⟨b, o, cap, cs, t, fr, k1, k2, k3, k4, k5, k6, fun j c sk hj hc => let ⟨u, q1, q2⟩ := k7 j c sk hj hc; ⟨u, q1, by cases sk <;> exact q2⟩⟩
  · cases h

theorem renB_mut {N : Nat} {B B' : Blk} (h : renB σ N B = some B') : B.mut = true ∧ B'.mut = true := by
  unfold renB at h
  split at h
  · obtain ⟨x, h1, rfl⟩ := Option.map_eq_some_iff.1 h; exact ⟨rfl, rfl⟩
  · cases h; exact ⟨rfl, rfl⟩
  · obtain ⟨x, h1, rfl⟩ := Option.map_eq_some_iff.1 h; exact ⟨rfl, rfl⟩
  · cases h

theorem renB_foot (hb : Bound φ σ φl) {B B' : Blk} {L : Loc} {heap : Array Obj} (h : renB σ φ.length B = some B') (hB : RepB φl L heap B) (x : Nat) : B.foot φl L x ↔ B'.foot (φ ++ φl) L x := by
  unfold renB at h
  split at h
  · obtain ⟨x, h1, rfl⟩ := Option.map_eq_some_iff.1 h; exact Iff.rfl
  · cases h; exact Iff.rfl
  · obtain ⟨F', h1, rfl⟩ := Option.map_eq_some_iff.1 h
    obtain ⟨_, _, _, LF, hF, _⟩ := hB
    have hF' := gId_get hb h1 hF
    constructor
    · rintro (q | ⟨LF', i, q1, q2⟩)
      · exact .inl q
      · rw [hF] at q1; cases q1
        exact .inr ⟨LF, i, hF', q2⟩
    · rintro (q | ⟨LF', i, q1, q2⟩)
      · exact .inl q
      · rw [hF'] at q1; cases q1
        exact .inr ⟨LF, i, hF, q2⟩
  · cases h
end

def gBack (σ : List Src) (N : Nat) (H2 : AH) : (j : Nat) → List Src → List BSh → AH → Option AH
  | j, s :: r, b :: r', H => match b.mut, s with
    | true, .blk c => match H2[j]? with
      | some (some B) => match renB σ N B with
        | some B' => gBack σ N H2 (j + 1) r r' (H.set c (some B'))
        | none => none
      | _ => gBack σ N H2 (j + 1) r r' (H.set c none)
    | _, _ => gBack σ N H2 (j + 1) r r' H
  | _, _, _, H => some H

def isNew (σ : List Src) (j : Nat) : Bool :=
  match σ[j]? with
  | none => true
  | some .fresh => true
  | _ => false

def gMore (σ : List Src) (N : Nat) : (j : Nat) → AH → Option AH
  | _, [] => some []
  | j, b :: r => match (match isNew σ j, b with
      | true, some B => (renB σ N B).map some
      | _, _ => some none) with
    | some x => match gMore σ N (j + 1) r with
      | some r' => some (x :: r')
      | none => none
    | none => none

def globH (σ : List Src) (bs : List BSh) (H H2 : AH) : Option AH :=
  match gBack σ H.length H2 0 σ bs H, gMore σ H.length 0 H2 with
  | some a, some b => some (a ++ b)
  | _, _ => none

theorem gBack_spec {σ : List Src} {N : Nat} {H2 : AH} : ∀ {r : List Src} {r' : List BSh} {j : Nat} {H H' : AH}, gBack σ N H2 j r r' H = some H' → H'.length = H.length ∧ ∀ id B, H'[id]? = some (some B) →
    (H[id]? = some (some B) ∧ ∀ (t : Nat) (b : BSh), r[t]? = some (Src.blk id) → r'[t]? = some b → b.mut = false) ∨
    (∃ (t : Nat) (b : BSh) (B2 : Blk), r[t]? = some (Src.blk id) ∧ r'[t]? = some b ∧ b.mut = true ∧ H2[j + t]? = some (some B2) ∧ renB σ N B2 = some B)
  | [], r', j, H, H', h => by
    cases r' <;> (cases h; exact ⟨rfl, fun id B hB => .inl ⟨hB, fun t b h1 => by simp at h1⟩⟩)
  | _ :: _, [], j, H, H', h => by
    cases h; exact ⟨rfl, fun id B hB => .inl ⟨hB, fun t b _ h2 => by simp at h2⟩⟩
  | s :: r, b :: r', j, H, H', h => by
    simp only [gBack] at h
    have step : ∀ {H1 : AH}, gBack σ N H2 (j + 1) r r' H1 = some H' → H1.length = H.length → (∀ id B, H1[id]? = some (some B) → (H[id]? = some (some B) ∧ (s = .blk id → b.mut = false)) ∨ (s = .blk id ∧ b.mut = true ∧ ∃ B2, H2[j]? = some (some B2) ∧ renB σ N B2 = some B)) →
        H'.length = H.length ∧ ∀ id B, H'[id]? = some (some B) → (H[id]? = some (some B) ∧ ∀ (t : Nat) (c : BSh), (s :: r)[t]? = some (Src.blk id) → (b :: r')[t]? = some c → c.mut = false) ∨
          (∃ (t : Nat) (c : BSh) (B2 : Blk), (s :: r)[t]? = some (Src.blk id) ∧ (b :: r')[t]? = some c ∧ c.mut = true ∧ H2[j + t]? = some (some B2) ∧ renB σ N B2 = some B) := by
      intro H1 h1 hl h2
      obtain ⟨g1, g2⟩ := gBack_spec h1
      refine ⟨by rw [g1, hl], fun id B hB => ?_⟩
      rcases g2 id B hB with ⟨e1, e2⟩ | ⟨t, c, B2, e1, e2, e3, e4, e5⟩
      · rcases h2 id B e1 with ⟨f1, f2⟩ | ⟨rfl, f2, B2, f3, f4⟩
        · refine .inl ⟨f1, fun t c k1 k2 => ?_⟩
          cases t with
          | zero =>
            simp only [List.getElem?_cons_zero, Option.some.injEq] at k1 k2
            subst k2
            exact f2 k1
          | succ t => exact e2 t c (by simpa using k1) (by simpa using k2)
        · exact .inr ⟨0, b, B2, rfl, rfl, f2, f3, f4⟩
      · exact .inr ⟨t + 1, c, B2, by simpa using e1, by simpa using e2, e3, by rw [← e4]; congr 1; omega, e5⟩
    split at h
    · rename_i c hm
      have hset : ∀ (x : Option Blk) id B, (H.set c x)[id]? = some (some B) → (id = c ∧ x = some B) ∨ (id ≠ c ∧ H[id]? = some (some B)) := fun x id B h => get_set h
      split at h
      · rename_i B2 hB2
        split at h
        · rename_i B' hB'
          refine step h (by simp) fun id B hB => ?_
          rcases hset _ id B hB with ⟨rfl, e⟩ | ⟨hne, e⟩
          · cases e; exact .inr ⟨rfl, hm, B2, hB2, hB'⟩
          · exact .inl ⟨e, fun e' => by cases e'; exact (hne rfl).elim⟩
        · cases h
      · refine step h (by simp) fun id B hB => ?_
        rcases hset _ id B hB with ⟨rfl, e⟩ | ⟨hne, e⟩
        · cases e
        · exact .inl ⟨e, fun e' => by cases e'; exact (hne rfl).elim⟩
    · rename_i hno
      refine step h rfl fun id B hB => .inl ⟨hB, fun e => ?_⟩
      cases hm : b.mut with
      | false => rfl
      | true => exact (hno id hm e).elim

theorem gMore_spec {σ : List Src} {N : Nat} : ∀ {H2 : AH} {j : Nat} {H' : AH}, gMore σ N j H2 = some H' → H'.length = H2.length ∧ ∀ t B, H'[t]? = some (some B) → isNew σ (j + t) = true ∧ ∃ B2, H2[t]? = some (some B2) ∧ renB σ N B2 = some B
  | [], j, H', h => by cases h; exact ⟨rfl, fun t B h => by simp at h⟩
  | b :: r, j, H', h => by
    simp only [gMore] at h
    split at h
    · rename_i x hx
      split at h
      · rename_i r' hr
        cases h
        obtain ⟨g1, g2⟩ := gMore_spec hr
        refine ⟨by simp [g1], fun t B hB => ?_⟩
        cases t with
        | zero =>
          simp only [List.getElem?_cons_zero, Option.some.injEq] at hB
          subst hB
          split at hx
          · rename_i B0 hn
            obtain ⟨B1, e1, e2⟩ := Option.map_eq_some_iff.1 hx
            cases e2
            exact ⟨hn, B0, rfl, e1⟩
          · cases hx
        | succ t =>
          obtain ⟨e1, B2, e2, e3⟩ := g2 t B (by simpa using hB)
          exact ⟨by rw [← e1]; congr 1; omega, B2, by simpa using e2, e3⟩
      · cases h
    · cases h

theorem frame_back {φ φ0 φ2 : Phi} {H H0 H2 H' : AH} {w w' : World} {σ : List Src} {bs : List BSh} (hrep : Rep φ H w.heap) (hσ : All2 (SrcOK φ) σ φ0) (hI : Img φ H σ φ0 H0) (hm0 : ∀ (j : Nat) B, H0[j]? = some (some B) → ∃ b, bs[j]? = some b ∧ b.mut = B.mut)
    (hrep2 : Rep φ2 H2 w'.heap) (hE : Ext φ0 H0 w φ2 H2 w') (hg : globH σ bs H H2 = some H') :
    Rep (φ ++ φ2) H' w'.heap ∧ Ext φ H w (φ ++ φ2) H' w' ∧ Bound φ σ φ2 := by
  have hpre := hE.pre
  obtain ⟨ψ, hψ⟩ := hpre
  have hb : Bound φ σ φ2 := by
    refine ⟨fun j c hj => ?_, fun j a L hj hL => ?_⟩
    · obtain ⟨L, h1, h2⟩ := hσ.get hj
      rw [hψ, get_prefix h1]; exact h2.symm
    · obtain ⟨L', h1, h2⟩ := hσ.get hj
      rw [hψ, get_prefix h1] at hL
      cases hL; exact h2
  unfold globH at hg
  split at hg
  · rename_i Ha Hb ha hbb
    cases hg
    obtain ⟨a1, a2⟩ := gBack_spec ha
    obtain ⟨b1, b2⟩ := gMore_spec hbb
    have hlen := hrep.len
    -- where a block comes from
    have origin : ∀ (id : Nat) (B : Blk) (L : Loc), (Ha ++ Hb)[id]? = some (some B) → (φ ++ φ2)[id]? = some L →
        (id < H.length ∧ H[id]? = some (some B) ∧ φ[id]? = some L ∧ ∀ (t : Nat) (b : BSh), σ[t]? = some (Src.blk id) → bs[t]? = some b → b.mut = false) ∨
        (∃ j B2, H2[j]? = some (some B2) ∧ φ2[j]? = some L ∧ renB σ φ.length B2 = some B ∧ ((id < H.length ∧ σ[j]? = some (.blk id)) ∨ (id = H.length + j ∧ isNew σ j = true))) := by
      intro id B L hB hL
      rcases Nat.lt_or_ge id H.length with hlt | hge
      · rw [List.getElem?_append_left (by omega)] at hB
        rw [List.getElem?_append_left (by omega)] at hL
        rcases a2 id B hB with ⟨e1, e2⟩ | ⟨t, b, B2, e1, e2, e3, e4, e5⟩
        · exact .inl ⟨hlt, e1, hL, e2⟩
        · refine .inr ⟨t, B2, by simpa using e4, ?_, by rw [hlen]; exact e5, .inl ⟨hlt, e1⟩⟩
          rw [hb.blk _ _ e1]; exact hL
      · rw [List.getElem?_append_right (by omega), a1] at hB
        rw [List.getElem?_append_right (by omega)] at hL
        obtain ⟨e1, B2, e2, e3⟩ := b2 _ B hB
        rw [Nat.zero_add] at e1
        exact .inr ⟨id - H.length, B2, e2, by rw [← hlen]; exact hL, by rw [hlen]; exact e3, .inr ⟨by omega, e1⟩⟩
    have hex : ∀ (id : Nat) (B : Blk), (Ha ++ Hb)[id]? = some (some B) → ∃ L, (φ ++ φ2)[id]? = some L := by
      intro id B hB
      have h1 := get_lt hB
      have h2 := hrep2.len
      simp only [List.length_append] at h1
      have h3 : id < (φ ++ φ2).length := by simp only [List.length_append]; omega
      exact ⟨_, List.getElem?_eq_getElem h3⟩
    -- an old block and one of the function's lie apart
    have cross : ∀ (id j x : Nat) (B B2 : Blk) (L L2 : Loc), H[id]? = some (some B) → φ[id]? = some L → (∀ (t : Nat) (b : BSh), σ[t]? = some (Src.blk id) → bs[t]? = some b → b.mut = false) → H2[j]? = some (some B2) → φ2[j]? = some L2 → B2.mut = true → B.foot φ L x → B2.foot φ2 L2 x → False := by
      intro id j x B B2 L L2 h1 h2 h3 h4 h5 h6 h7 h8
      obtain ⟨L', e1, e2⟩ := hrep.blk id B h1
      rw [h2] at e1; cases e1
      have hx := e2.lt h7
      rcases hE.img j B2 L2 x h4 h5 h8 with hge | ⟨id0, B0, L0, k1, k2, k3, k4⟩
      · omega
      · obtain ⟨s, c, Bc, Lc, p1, p2, p3, p4, p5, p6⟩ := hI id0 B0 L0 x k1 k2 k3
        obtain ⟨q1, rfl⟩ := p6 (k4 h6)
        by_cases hc : c = id
        · subst hc
          obtain ⟨b, r1, r2⟩ := hm0 id0 B0 k1
          have := h3 id0 b p1 r1
          rw [r2, k4 h6] at this
          cases this
        · exact hrep.apart c id Bc B Lc L x p3 h1 p4 h2 hc q1 p5 h7
    -- what is old stays as it was
    have stay : ∀ (id : Nat) (B : Blk) (L : Loc), H[id]? = some (some B) → φ[id]? = some L → (∀ (t : Nat) (b : BSh), σ[t]? = some (Src.blk id) → bs[t]? = some b → b.mut = false) → ∀ x, B.foot φ L x → w'.heap[x]? = w.heap[x]? := by
      intro id B L h1 h2 h3 x hx
      obtain ⟨L', e1, e2⟩ := hrep.blk id B h1
      rw [h2] at e1; cases e1
      refine hE.frame x (e2.lt hx) fun id0 B0 L0 k1 k2 k3 k4 => ?_
      obtain ⟨s, c, Bc, Lc, p1, p2, p3, p4, p5, p6⟩ := hI id0 B0 L0 x k1 k3 k4
      obtain ⟨q1, rfl⟩ := p6 k2
      by_cases hc : c = id
      · subst hc
        obtain ⟨b, r1, r2⟩ := hm0 id0 B0 k1
        have := h3 id0 b p1 r1
        rw [r2, k2] at this
        cases this
      · exact hrep.apart c id Bc B Lc L x p3 h1 p4 h2 hc q1 p5 hx
    refine ⟨⟨by simp [a1, b1, hlen, hrep2.len], ?_, ?_⟩, ⟨⟨hE.size, ⟨φ2, rfl⟩, ?_, ?_⟩, hE.os, hE.output, hE.tape⟩, hb⟩
    · intro id B hB
      obtain ⟨L, hL⟩ := hex id B hB
      refine ⟨L, hL, ?_⟩
      rcases origin id B L hB hL with ⟨_, h1, h2, h3⟩ | ⟨j, B2, h1, h2, h3, _⟩
      · obtain ⟨L', e1, e2⟩ := hrep.blk id B h1
        rw [h2] at e1; cases e1
        exact (e2.of_heap (stay id B L h1 h2 h3)).mono φ2
      · obtain ⟨L', e1, e2⟩ := hrep2.blk j B2 h1
        rw [h2] at e1; cases e1
        exact renB_rep hb h3 e2
    · intro id id' B B' L L' x hB hB' hL hL' hne hm z z'
      have down : ∀ {id : Nat} {B : Blk} {L : Loc}, H[id]? = some (some B) → φ[id]? = some L → B.foot (φ ++ φ2) L x → B.foot φ L x := by
        intro id B L h1 h2 z
        obtain ⟨L', e1, e2⟩ := hrep.blk id B h1
        rw [h2] at e1; cases e1
        exact (e2.foot_iff φ2 x).1 z
      have down2 : ∀ {j : Nat} {B2 B : Blk} {L : Loc}, H2[j]? = some (some B2) → φ2[j]? = some L → renB σ φ.length B2 = some B → B.foot (φ ++ φ2) L x → B2.foot φ2 L x := by
        intro j B2 B L h1 h2 h3 z
        obtain ⟨L', e1, e2⟩ := hrep2.blk j B2 h1
        rw [h2] at e1; cases e1
        exact (renB_foot hb h3 e2 x).2 z
      rcases origin id B L hB hL with ⟨_, h1, h2, h3⟩ | ⟨j, B2, h1, h2, h3, h4⟩
      · rcases origin id' B' L' hB' hL' with ⟨_, h1', h2', h3'⟩ | ⟨j', B2', h1', h2', h3', h4'⟩
        · exact hrep.apart id id' B B' L L' x h1 h1' h2 h2' hne hm (down h1 h2 z) (down h1' h2' z')
        · obtain ⟨m1, m2⟩ := renB_mut h3'
          exact cross id j' x B B2' L L' h1 h2 h3 h1' h2' m1 (down h1 h2 z) (down2 h1' h2' h3' z')
      · obtain ⟨m1, m2⟩ := renB_mut h3
        rcases origin id' B' L' hB' hL' with ⟨_, h1', h2', h3'⟩ | ⟨j', B2', h1', h2', h3', h4'⟩
        · exact cross id' j x B' B2 L' L h1' h2' h3' h1 h2 m1 (down h1' h2' z') (down2 h1 h2 h3 z)
        · have hjj : j ≠ j' := by
            rintro rfl
            rcases h4 with ⟨_, s1⟩ | ⟨rfl, s1⟩
            · rcases h4' with ⟨_, s2⟩ | ⟨_, s2⟩
              · rw [s1] at s2; cases s2; exact hne rfl
              · simp [isNew, s1] at s2
            · rcases h4' with ⟨_, s2⟩ | ⟨rfl, s2⟩
              · simp [isNew, s2] at s1
              · exact hne rfl
          exact hrep2.apart j j' B2 B2' L L' x h1 h1' h2 h2' hjj m1 (down2 h1 h2 h3 z) (down2 h1' h2' h3' z')
    · intro b hlt hn
      refine hE.frame b hlt fun id0 B0 L0 k1 k2 k3 k4 => ?_
      obtain ⟨s, c, Bc, Lc, p1, p2, p3, p4, p5, p6⟩ := hI id0 B0 L0 b k1 k3 k4
      exact hn c Bc Lc p3 (p6 k2).1 p4 p5
    · intro id B L b hB hL hf
      rcases origin id B L hB hL with ⟨_, h1, h2, h3⟩ | ⟨j, B2, h1, h2, h3, _⟩
      · obtain ⟨L', e1, e2⟩ := hrep.blk id B h1
        rw [h2] at e1; cases e1
        exact .inr ⟨id, B, _, h1, h2, (e2.foot_iff φ2 b).1 hf, fun h => h⟩
      · obtain ⟨m1, m2⟩ := renB_mut h3
        obtain ⟨L', e1, e2⟩ := hrep2.blk j B2 h1
        rw [h2] at e1; cases e1
        rcases hE.img j B2 _ b h1 h2 ((renB_foot hb h3 e2 b).2 hf) with h' | ⟨id0, B0, L0, k1, k2, k3, k4⟩
        · exact .inl h'
        · obtain ⟨s, c, Bc, Lc, p1, p2, p3, p4, p5, p6⟩ := hI id0 B0 L0 b k1 k2 k3
          exact .inr ⟨c, Bc, Lc, p3, p4, p5, fun hm => (p6 (k4 m1)).1⟩
  · cases hg
end Go.AM
end

/-
  What a spec takes of the memory it takes where a block more stands behind.
-/
section
namespace Go.AM

section
variable {bs : List BSh} {N N' : Nat}

theorem blt_mono (hN : N ≤ N') {c : Nat} (h : Nat.blt c N = true) : Nat.blt c N' = true := by
  rw [Nat.blt_eq] at h ⊢
  omega

theorem takeS_mono (hN : N ≤ N') {σ : List Src} {s : Sh} {a : AS} {r : List Src × List At} (h : takeS bs N σ s a = some r) : takeS bs N' σ s a = some r := by
  cases s
  case k k => cases k <;> cases a <;> exact h
  case sq id wd =>
    cases hv : viewT (.v (.s a)) with
    | none =>
      simp only [takeS, hv] at h
      cases h
    | some q =>
      obtain ⟨cid, wd', i, len⟩ := q
      simp only [takeS, hv] at h ⊢
      split at h
      · rename_i h1
        split at h
        · rename_i h2
          rw [blt_mono hN h2]
          exact h
        · cases h
      · cases h
  case ms id f wd =>
    cases hv : viewM (.v (.s a)) with
    | none =>
      simp only [takeS, hv] at h
      cases h
    | some q =>
      obtain ⟨cid, cF, wd', i, lo, len⟩ := q
      simp only [takeS, hv] at h ⊢
      split at h
      · rename_i h1 h2 h3
        rw [h1, blt_mono hN h2, blt_mono hN h3]
        exact h
      · cases h
  all_goals cases a <;> exact h

theorem takeL_mono (hN : N ≤ N') : ∀ {r : List Sh} {as : List AS} {σ : List Src} {res : List Src × List At}, takeL bs N σ r as = some res → takeL bs N' σ r as = some res
  | [], [], _, _, h => h
  | s :: r, a :: as, σ, res, h => by
    simp only [takeL] at h ⊢
    split at h
    · rename_i σ1 x h1
      rw [takeS_mono hN h1]
      simp only
      split at h
      · rename_i σ2 y h2
        rw [takeL_mono hN h2]
        exact h
      · cases h
    · cases h
  | [], _ :: _, _, _, h => by simp [takeL] at h
  | _ :: _, [], _, _, h => by simp [takeL] at h

theorem takeA_mono (hN : N ≤ N') {σ : List Src} {p : Bool × List Sh} {a : AV} {res : List Src × List At} (h : takeA bs N σ p a = some res) : takeA bs N' σ p a = some res := by
  obtain ⟨b, r⟩ := p
  cases b
  · cases a with
    | s a =>
      rcases r with _ | ⟨s, _ | ⟨s2, r⟩⟩
      · simp [takeA] at h
      · exact takeS_mono hN h
      · simp [takeA] at h
    | agg as => simp [takeA] at h
  · cases a with
    | s a => simp [takeA] at h
    | agg as => exact takeL_mono hN h

theorem takeAs_mono (hN : N ≤ N') : ∀ {r : List (Bool × List Sh)} {as : List AV} {σ : List Src} {res : List Src × List At}, takeAs bs N σ r as = some res → takeAs bs N' σ r as = some res
  | [], [], _, _, h => h
  | s :: r, a :: as, σ, res, h => by
    simp only [takeAs] at h ⊢
    split at h
    · rename_i σ1 x h1
      rw [takeA_mono hN h1]
      simp only
      split at h
      · rename_i σ2 y h2
        rw [takeAs_mono hN h2]
        exact h
      · cases h
    · cases h
  | [], _ :: _, _, _, h => by simp [takeAs] at h
  | _ :: _, [], _, _, h => by simp [takeAs] at h

theorem takeT_mono (hN : N ≤ N') {σ : List Src} {s : TSh} {a : TV} {res : List Src × List At} (h : takeT bs N σ s a = some res) : takeT bs N' σ s a = some res := by
  cases s <;> cases a <;> first
    | exact takeA_mono hN h
    | exact takeAs_mono hN h
    | exact h

theorem takeTs_mono (hN : N ≤ N') : ∀ {r : List TSh} {as : List TV} {σ : List Src} {res : List Src × List At}, takeTs bs N σ r as = some res → takeTs bs N' σ r as = some res
  | [], [], _, _, h => h
  | s :: r, a :: as, σ, res, h => by
    simp only [takeTs] at h ⊢
    split at h
    · rename_i σ1 x h1
      rw [takeT_mono hN h1]
      simp only
      split at h
      · rename_i σ2 y h2
        rw [takeTs_mono hN h2]
        exact h
      · cases h
    · cases h
  | [], _ :: _, _, _, h => by simp [takeTs] at h
  | _ :: _, [], _, _, h => by simp [takeTs] at h
end

section
variable {H : AH} {B : Option Blk} {bs : List BSh}

theorem takeB_mono {σ : List Src} {s : Src} {b : BSh} {res : List Src × List At} (h : takeB H bs σ s b = some res) : takeB (H ++ [B]) bs σ s b = some res := by
  have hl : H.length ≤ (H ++ [B]).length := by simp
  cases s with
  | blk c =>
    cases b with
    | no => exact h
    | cells r =>
      simp only [takeB] at h ⊢
      cases hb : blk H c with
      | none => rw [hb] at h; cases h
      | some x =>
        rw [hb] at h
        rw [blk_mono hb]
        cases x with
        | cells as => exact takeL_mono hl h
        | _ => cases h
    | roc r =>
      simp only [takeB] at h ⊢
      cases hb : blkC H c with
      | none => rw [hb] at h; cases h
      | some x =>
        rw [hb] at h
        rw [blkC_mono hb]
        cases x with
        | cells as => exact takeL_mono hl h
        | _ => cases h
    | rows ks own =>
      simp only [takeB] at h ⊢
      cases hb : blk H c with
      | none => rw [hb] at h; cases h
      | some x =>
        rw [hb] at h
        rw [blk_mono hb]
        exact h
    | nrows ks c0 ms f bel own =>
      simp only [takeB] at h ⊢
      cases hb : blk H c with
      | none => rw [hb] at h; cases h
      | some x =>
        rw [hb] at h
        rw [blk_mono hb]
        exact h
  | mview c F wd i lo len =>
    cases b with
    | no => exact h
    | rows ks own =>
      cases own with
      | true => exact h
      | false =>
        simp only [takeB] at h ⊢
        cases hb : blk H c with
        | none => rw [hb] at h; cases h
        | some x =>
          rw [hb] at h
          rw [blk_mono hb]
          exact h
    | _ => exact h
  | view c wd i len =>
    cases b with
    | no => exact h
    | rows ks own =>
      cases own with
      | true => exact h
      | false =>
        simp only [takeB] at h ⊢
        cases hb : blk H c with
        | none => rw [hb] at h; cases h
        | some x =>
          rw [hb] at h
          rw [blk_mono hb]
          exact h
    | _ => exact h
  | cview c wd o len =>
    cases b with
    | no => exact h
    | rows ks own =>
      cases own with
      | true => exact h
      | false =>
        simp only [takeB] at h ⊢
        cases hb : blkC H c with
        | none => rw [hb] at h; cases h
        | some x =>
          rw [hb] at h
          rw [blkC_mono hb]
          exact h
    | _ => exact h
  | fresh => cases b <;> exact h
  | opq a => cases b <;> exact h

theorem takeBs_mono : ∀ {r : List BSh} {j : Nat} {σ : List Src} {res : List Src × List At}, takeBs H bs j r σ = some res → takeBs (H ++ [B]) bs j r σ = some res
  | [], _, _, _, h => h
  | b :: r, j, σ, res, h => by
    simp only [takeBs] at h ⊢
    split at h
    · rename_i s hs
      split at h
      · rename_i σ1 x h1
        rw [takeB_mono h1]
        simp only
        split at h
        · rename_i σ2 y h2
          rw [takeBs_mono h2]
          exact h
        · cases h
      · cases h
    · cases h

theorem takeF_mono {k : Nat} {sh : FSh} {ts : List TV} {res : List Src × List At} (h : takeF k sh ts H = some res) : takeF k sh ts (H ++ [B]) = some res := by
  unfold takeF at h ⊢
  split at h
  · rename_i σ1 x h1
    rw [takeTs_mono (N' := (H ++ [B]).length) (by simp) h1]
    simp only
    split at h
    · rename_i σ2 y h2
      rw [takeBs_mono h2]
      exact h
    · cases h
  · cases h
end
end Go.AM
end

/-
  A function that is told of its own memory leaves the blocks that its arguments do not lead to.
-/
section
namespace Go.AM

def SrcIn (X : List Nat) (s : Src) : Prop := ∀ c, s = .blk c → c ∈ X
def SrcsIn (X : List Nat) (σ : List Src) : Prop := ∀ s ∈ σ, SrcIn X s

section
variable {X : List Nat}

theorem srcs_push {σ : List Src} {s : Src} (h : SrcsIn X σ) (hs : SrcIn X s) : SrcsIn X (σ ++ [s]) := by
  intro t ht
  rcases List.mem_append.1 ht with h1 | h1
  · exact h t h1
  · simp only [List.mem_singleton] at h1
    subst h1; exact hs

theorem bindId_in {σ σ' : List Src} {id cid : Nat} (h : bindId σ id cid = some σ') (hσ : SrcsIn X σ) (hc : cid ∈ X) : SrcsIn X σ' := by
  unfold bindId at h
  repeat' split at h
  all_goals first
    | (cases h; done)
    | (cases h; exact hσ)
    | (cases h; exact srcs_push hσ fun c e => by cases e; exact hc)

theorem bindMap_in {α : Type} {σ σ' : List Src} {id cid : Nat} {as as' : α} (h : (bindId σ id cid).map (fun σ' => (σ', as')) = some (σ', as)) (hσ : SrcsIn X σ) (hc : cid ∈ X) : SrcsIn X σ' := by
  obtain ⟨σ1, h1, h2⟩ := Option.map_eq_some_iff.1 h
  simp only [Prod.mk.injEq] at h2
  obtain ⟨rfl, _⟩ := h2
  exact bindId_in h1 hσ hc

theorem bindCaps_in : ∀ {caps caps' : List (Nat × Nat)} {σ σ' : List Src}, bindCaps σ caps caps' = some σ' → SrcsIn X σ → (∀ c ∈ caps', c.1 ∈ X) → SrcsIn X σ'
  | [], [], _, _, h, hσ, _ => by cases h; exact hσ
  | (id, o) :: r, (cid, o') :: r', σ, σ', h, hσ, hc => by
    simp only [bindCaps] at h
    split at h
    · split at h
      · rename_i σ1 h1
        exact bindCaps_in h (bindId_in h1 hσ (hc (cid, o') (by simp))) fun c hm => hc c (by simp [hm])
      · cases h
    · cases h
  | [], _ :: _, _, _, h, _, _ => by simp [bindCaps] at h
  | _ :: _, [], _, _, h, _, _ => by simp [bindCaps] at h

theorem viewT_ids {a : AS} {c wd i len : Nat} (h : viewT (.v (.s a)) = some (c, wd, i, len)) : idsS a = [c] := by
  cases a <;> simp [viewT] at h <;> obtain ⟨rfl, _⟩ := h <;> rfl

theorem viewM_ids {a : AS} {c F wd i lo len : Nat} (h : viewM (.v (.s a)) = some (c, F, wd, i, lo, len)) : idsS a = [c, F] := by
  cases a <;> simp [viewM] at h <;> obtain ⟨rfl, rfl, _⟩ := h <;> rfl

theorem takeS_in {bs : List BSh} {N : Nat} {σ σ' : List Src} {s : Sh} {a : AS} {as : List At} (h : takeS bs N σ s a = some (σ', as)) (hσ : SrcsIn X σ) (ha : ∀ i ∈ idsS a, i ∈ X) : SrcsIn X σ' := by
  unfold takeS at h
  split at h
  · cases h; exact hσ
  · split at h
    · cases h; exact hσ
    · cases h
  · split at h
    · exact bindMap_in h hσ (ha _ (by simp [idsS]))
    · cases h
  · split at h
    · exact bindMap_in h hσ (ha _ (by simp [idsS]))
    · cases h
  · split at h
    · exact bindMap_in h hσ (ha _ (by simp [idsS]))
    · cases h
  · split at h
    · exact bindMap_in h hσ (ha _ (by simp [idsS]))
    · cases h
  · split at h
    · cases h; exact srcs_push hσ fun c e => by cases e
    · cases h
  · split at h
    · cases h; exact srcs_push hσ fun c e => by cases e
    · cases h
  · split at h
    · rename_i hv
      have e := viewT_ids hv
      split at h
      · split at h
        · exact bindMap_in h hσ (ha _ (by rw [e]; simp))
        · cases h
      · cases h
    · cases h
  · split at h
    · split at h
      · split at h
        · cases h; exact srcs_push hσ fun c e => by cases e
        · cases h
      · split at h
        · split at h
          · cases h; exact srcs_push hσ fun c e => by cases e
          · cases h
        · split at h
          · cases h; exact srcs_push hσ fun c e => by cases e
          · cases h
        · split at h
          · cases h; exact srcs_push hσ fun c e => by cases e
          · cases h
        · cases h; exact srcs_push hσ fun c e => by cases e
        · cases h
    · cases h
  · split at h
    · rename_i hv
      have e := viewM_ids hv
      split at h
      · split at h
        · rename_i σ1 h1
          exact bindMap_in h (bindId_in h1 hσ (ha _ (by rw [e]; simp))) (ha _ (by rw [e]; simp))
        · cases h
      · cases h
    · cases h
  · exact bindMap_in h hσ (ha _ (by simp [idsS]))
  · split at h
    · cases h; exact srcs_push hσ fun c e => by cases e
    · cases h
  · cases h; exact hσ
  · cases h; exact hσ
  · cases h; exact hσ
  · split at h
    · obtain ⟨σ1, h1, h2⟩ := Option.map_eq_some_iff.1 h
      simp only [Prod.mk.injEq] at h2
      obtain ⟨rfl, _⟩ := h2
      exact bindCaps_in h1 hσ fun c hc => ha _ (by simp only [idsS, List.mem_map]; exact ⟨c, hc, rfl⟩)
    · cases h
  · cases h

theorem takeL_in {bs : List BSh} {N : Nat} : ∀ {r : List Sh} {as : List AS} {σ σ' : List Src} {l : List At}, takeL bs N σ r as = some (σ', l) → SrcsIn X σ → (∀ i ∈ idsL as, i ∈ X) → SrcsIn X σ'
  | [], [], _, _, _, h, hσ, _ => by cases h; exact hσ
  | s :: r, a :: as, σ, σ', l, h, hσ, ha => by
    simp only [takeL] at h
    split at h
    · rename_i σ1 x h1
      split at h
      · rename_i σ2 y h2
        cases h
        exact takeL_in h2 (takeS_in h1 hσ fun i hi => ha i (by simp [idsL, hi])) fun i hi => ha i (by simp [idsL, hi])
      · cases h
    · cases h
  | [], _ :: _, _, _, _, h, _, _ => by simp [takeL] at h
  | _ :: _, [], _, _, _, h, _, _ => by simp [takeL] at h

theorem takeA_in {bs : List BSh} {N : Nat} {σ σ' : List Src} {p : Bool × List Sh} {a : AV} {l : List At} (h : takeA bs N σ p a = some (σ', l)) (hσ : SrcsIn X σ) (ha : ∀ i ∈ idsA a, i ∈ X) : SrcsIn X σ' := by
  obtain ⟨b, r⟩ := p
  cases b
  · cases a with
    | s a =>
      rcases r with _ | ⟨s, _ | ⟨s2, r⟩⟩
      · simp [takeA] at h
      · exact takeS_in h hσ ha
      · simp [takeA] at h
    | agg as => simp [takeA] at h
  · cases a with
    | s a => simp [takeA] at h
    | agg as => exact takeL_in h hσ ha

theorem takeAs_in {bs : List BSh} {N : Nat} : ∀ {r : List (Bool × List Sh)} {as : List AV} {σ σ' : List Src} {l : List At}, takeAs bs N σ r as = some (σ', l) → SrcsIn X σ → (∀ i ∈ idsAs as, i ∈ X) → SrcsIn X σ'
  | [], [], _, _, _, h, hσ, _ => by cases h; exact hσ
  | s :: r, a :: as, σ, σ', l, h, hσ, ha => by
    simp only [takeAs] at h
    split at h
    · rename_i σ1 x h1
      split at h
      · rename_i σ2 y h2
        cases h
        exact takeAs_in h2 (takeA_in h1 hσ fun i hi => ha i (by simp [idsAs, hi])) fun i hi => ha i (by simp [idsAs, hi])
      · cases h
    · cases h
  | [], _ :: _, _, _, _, h, _, _ => by simp [takeAs] at h
  | _ :: _, [], _, _, _, h, _, _ => by simp [takeAs] at h

theorem takeT_in {bs : List BSh} {N : Nat} {σ σ' : List Src} {s : TSh} {a : TV} {l : List At} (h : takeT bs N σ s a = some (σ', l)) (hσ : SrcsIn X σ) (ha : ∀ i ∈ idsT a, i ∈ X) : SrcsIn X σ' := by
  cases s with
  | v b r =>
    cases a with
    | v a => exact takeA_in h hσ ha
    | k c => exact takeA_in h hσ fun i hi => by simp [idsA, idsS] at hi
    | _ => cases h
  | tup r =>
    cases a with
    | tup l => exact takeAs_in h hσ ha
    | _ => cases h
  | any => simp only [takeT] at h; cases h; exact hσ

theorem takeTs_in {bs : List BSh} {N : Nat} : ∀ {r : List TSh} {as : List TV} {σ σ' : List Src} {l : List At}, takeTs bs N σ r as = some (σ', l) → SrcsIn X σ → (∀ i ∈ idsTs as, i ∈ X) → SrcsIn X σ'
  | [], [], _, _, _, h, hσ, _ => by cases h; exact hσ
  | s :: r, a :: as, σ, σ', l, h, hσ, ha => by
    simp only [takeTs] at h
    split at h
    · rename_i σ1 x h1
      split at h
      · rename_i σ2 y h2
        cases h
        exact takeTs_in h2 (takeT_in h1 hσ fun i hi => ha i (by simp [idsTs, hi])) fun i hi => ha i (by simp [idsTs, hi])
      · cases h
    · cases h
  | [], _ :: _, _, _, _, h, _, _ => by simp [takeTs] at h
  | _ :: _, [], _, _, _, h, _, _ => by simp [takeTs] at h

theorem closedIds_spec {H : AH} (h : closedIds H X = true) {c : Nat} (hc : c ∈ X) : ∀ i ∈ idsB (blk H c), i ∈ X := by
  intro i hi
  have h1 := List.all_eq_true.1 h c hc
  have h2 := List.all_eq_true.1 h1 i hi
  simpa using h2

theorem takeB_in {H : AH} (hX : closedIds H X = true) {bs : List BSh} {σ σ' : List Src} {s : Src} {b : BSh} {l : List At} (h : takeB H bs σ s b = some (σ', l)) (hσ : SrcsIn X σ) (hs : SrcIn X s) : SrcsIn X σ' := by
  unfold takeB at h
  split at h
  · cases h; exact hσ
  · rename_i c r
    have hc := closedIds_spec hX (hs c rfl)
    split at h
    · rename_i as hb
      exact takeL_in h hσ fun i hi => hc i (by rw [hb]; exact hi)
    · cases h
  · rename_i c r
    have hc := closedIds_spec hX (hs c rfl)
    split at h
    · rename_i as hb
      refine takeL_in h hσ fun i hi => hc i ?_
      unfold blkC at hb
      split at hb
      · rename_i l' hl
        cases hb
        rw [hl]; exact hi
      · rw [hb]; exact hi
    · cases h
  · split at h
    · split at h
      · cases h; exact hσ
      · cases h
    · cases h
  · split at h
    · split at h
      · cases h; exact hσ
      · cases h
    · cases h
  · split at h
    · split at h
      · split at h
        · cases h; exact hσ
        · cases h
      · cases h
    · cases h
  · split at h
    · split at h
      · cases h; exact hσ
      · cases h
    · cases h
  · cases h; exact hσ
  · rename_i c ks c0 ms f bel own
    have hc := closedIds_spec hX (hs c rfl)
    split at h
    · rename_i ks' c0' ms' n g hh F ow own' hb
      split at h
      · have hF : F ∈ X := hc F (by rw [hb]; simp [idsB])
        split at h
        · exact bindMap_in h hσ hF
        · exact bindMap_in h hσ hF
        · cases h
      · cases h
    · cases h
  · cases h

theorem takeBs_in {H : AH} (hX : closedIds H X = true) {bs : List BSh} : ∀ {r : List BSh} {j : Nat} {σ σ' : List Src} {l : List At}, takeBs H bs j r σ = some (σ', l) → SrcsIn X σ → SrcsIn X σ'
  | [], _, _, _, _, h, hσ => by simp only [takeBs] at h; cases h; exact hσ
  | b :: r, j, σ, σ', l, h, hσ => by
    simp only [takeBs] at h
    split at h
    · rename_i s hs
      split at h
      · rename_i σ1 x h1
        split at h
        · rename_i σ2 y h2
          cases h
          exact takeBs_in hX h2 (takeB_in hX h1 hσ (hσ s (List.mem_of_getElem? hs)))
        · cases h
      · cases h
    · cases h

theorem takeF_in {H : AH} (hX : closedIds H X = true) {sh : FSh} {ts : List TV} {σ : List Src} {l : List At} (h : takeF 0 sh ts H = some (σ, l)) (ht : ∀ i ∈ idsTs ts, i ∈ X) : SrcsIn X σ := by
  unfold takeF at h
  split at h
  · rename_i σ1 x h1
    split at h
    · rename_i σ2 y h2
      split at h
      · cases h
        exact takeBs_in hX h2 (takeTs_in h1 (fun s hs => by simp [firstK] at hs) ht)
      · cases h
    · cases h
  · cases h

theorem gBack_keeps {σ : List Src} {N : Nat} {H2 : AH} {k : Nat} (hk : k ∉ X) : ∀ {r : List Src} {r' : List BSh} {j : Nat} {H H' : AH}, gBack σ N H2 j r r' H = some H' → SrcsIn X r → H'[k]? = H[k]?
  | [], r', _, _, _, h, _ => by cases r' <;> (cases h; rfl)
  | _ :: _, [], _, _, _, h, _ => by cases h; rfl
  | s :: r, b :: r', j, H, H', h, hr => by
    simp only [gBack] at h
    have hr' : SrcsIn X r := fun t ht => hr t (by simp [ht])
    split at h
    · rename_i c hm
      have hc : c ≠ k := fun e => hk (e ▸ hr (.blk c) (by simp) c rfl)
      split at h
      · split at h
        · rw [gBack_keeps hk h hr', List.getElem?_set_ne hc]
        · cases h
      · rw [gBack_keeps hk h hr', List.getElem?_set_ne hc]
    · exact gBack_keeps hk h hr'

theorem gBack_length {σ : List Src} {N : Nat} {H2 : AH} {r : List Src} {r' : List BSh} {j : Nat} {H H' : AH} (h : gBack σ N H2 j r r' H = some H') : H'.length = H.length := (gBack_spec h).1

theorem globH_keeps {σ : List Src} {bs : List BSh} {H H2 H' : AH} (h : globH σ bs H H2 = some H') (hσ : SrcsIn X σ) {k : Nat} (hk : k ∉ X) (hl : k < H.length) : blk H' k = blk H k := by
  unfold globH at h
  split at h
  · rename_i a b ha hb
    cases h
    unfold blk
    rw [List.getElem?_append_left (by rw [gBack_length ha]; exact hl), gBack_keeps hk ha hσ]
  · cases h
end
end Go.AM
end

/-
  The abstract machine, part 23: summaries of functions that are told of their own memory.
-/
section
namespace Go.AM
open Go.RowKit

def allow : AH → Tr AH
  | [] => .ok []
  | some (.nrows ks c0 ms n g h F (.below k) own) :: r => .br 0 (Nat.ble n k) ((allow r).bind fun r' => .ok (some (.nrows ks c0 ms n g h F .all own) :: r')) .no
  | b :: r => (allow r).bind fun r' => .ok (b :: r')

def leafO (k : Nat) (osh : FSh) (r : TV × AH) : Tr (List At) :=
  match takeF k osh [r.1] r.2 with
  | some (_, l) => .ok l
  | none => (allow r.2).bind fun H => match takeF k osh [r.1] H with
    | some (_, l) => .ok l
    | none => .no

def leafOs (k : Nat) : (j : Nat) → List FSh → TV × AH → Tr (Nat × List At)
  | _, [], _ => .no
  | j, osh :: r, x => match takeF k osh [x.1] x.2 with
    | some (_, l) => .ok (j, l)
    | none => leafOs k (j + 1) r x

def locF (ish osh : FSh) (T : List At → Tr (List At)) (args : List TV) (H : AH) : Tr (TV × AH) :=
  match takeF 0 ish args H with
  | some (σ, l) => (T l).bind fun l' => match mkV osh l' with
    | [v] => match renT σ H.length v, globH σ ish.hp H (mkH osh l') with
      | some v', some H' => forceL H' fun H' => .ok (v', H')
      | _, _ => .no
    | _ => .no
  | none => .no

def locFs (ish : FSh) (oshs : List FSh) (T : List At → Tr (Nat × List At)) (args : List TV) (H : AH) : Tr (TV × AH) :=
  match takeF 0 ish args H with
  | some (σ, l) => (T l).bind fun l' => match oshs[l'.1]? with
    | some osh => match mkV osh l'.2 with
      | [v] => match renT σ H.length v, globH σ ish.hp H (mkH osh l'.2) with
        | some v', some H' => forceL H' fun H' => .ok (v', H')
        | _, _ => .no
      | _ => .no
    | none => .no
  | none => .no

def locR (ish osh : FSh) (T : List At → Tr (List At)) (args : List TV) (H : AH) : Tr TV :=
  match takeF 0 ish args H with
  | some (_, l) => (T l).bind fun l' => match mkV osh l' with
    | [v] => match closedT v with
      | true => .ok v
      | false => .no
    | _ => .no
  | none => .no

theorem locF_keeps {ish osh : FSh} {T : List At → Tr (List At)} {args : List TV} {H H' : AH} {tv : TV} {X : List Nat} {j : Nat} (h : (locF ish osh T args H).val = some (tv, H')) (ha : ∀ i ∈ idsTs args, i ∈ X) (hX : closedIds H X = true) (hj : j < H.length) (hn : j ∉ X) : blk H' j = blk H j := by
  unfold locF at h
  split at h
  · rename_i σ l ht
    rw [Tr.val_bind] at h
    obtain ⟨r, hr, h⟩ := Option.bind_eq_some_iff.1 h
    split at h
    · split at h
      · rename_i v' H1 hren hglob
        rw [forceL_eq] at h
        have h := val_ok h
        simp only [Prod.mk.injEq] at h
        obtain ⟨_, rfl⟩ := h
        exact globH_keeps hglob (takeF_in hX ht ha) hn hj
      · simp [Tr.val] at h
    · simp [Tr.val] at h
  · simp [Tr.val] at h

theorem locFs_keeps {ish : FSh} {oshs : List FSh} {T : List At → Tr (Nat × List At)} {args : List TV} {H H' : AH} {tv : TV} {X : List Nat} {j : Nat} (h : (locFs ish oshs T args H).val = some (tv, H')) (ha : ∀ i ∈ idsTs args, i ∈ X) (hX : closedIds H X = true) (hj : j < H.length) (hn : j ∉ X) : blk H' j = blk H j := by
  unfold locFs at h
  split at h
  · rename_i σ l ht
    rw [Tr.val_bind] at h
    obtain ⟨r, hr, h⟩ := Option.bind_eq_some_iff.1 h
    split at h
    · split at h
      · split at h
        · rename_i v' H1 hren hglob
          rw [forceL_eq] at h
          have h := val_ok h
          simp only [Prod.mk.injEq] at h
          obtain ⟨_, rfl⟩ := h
          exact globH_keeps hglob (takeF_in hX ht ha) hn hj
        · simp [Tr.val] at h
      · simp [Tr.val] at h
    · simp [Tr.val] at h
  · simp [Tr.val] at h

theorem locR_mono {ish osh : FSh} {T : List At → Tr (List At)} {args : List TV} {H : AH} {B : Option Blk} {tv : TV} (h : (locR ish osh T args H).val = some tv) : (locR ish osh T args (H ++ [B])).val = some tv := by
  unfold locR at h ⊢
  cases ht : takeF 0 ish args H with
  | none => rw [ht] at h; simp [Tr.val] at h
  | some r =>
    obtain ⟨σ, l⟩ := r
    rw [ht] at h
    rw [takeF_mono ht]
    exact h

def locP (ish osh : FSh) (T : List At → Tr (List At)) (args : List TV) : Tr TV :=
  match args.all closedT with
  | true => locR ish osh T args []
  | false => .no

theorem mkH_length {sh : FSh} {l : List At} : (mkH sh l).length = sh.hp.length := mkBs_length

theorem mkBs_mut {ns : List Nat} {l : List At} : ∀ {r : List BSh} {i j : Nat} {B : Blk}, (mkBs ns l i r)[j]? = some (some B) → ∃ b, r[j]? = some b ∧ b.mut = B.mut
  | [], i, j, B, h => by simp [mkBs] at h
  | b :: r, i, j, B, h => by
    cases j with
    | zero =>
      simp only [mkBs, List.getElem?_cons_zero, Option.some.injEq] at h
      refine ⟨b, rfl, ?_⟩
      cases b with
      | nrows ks c0 ms f bel own => cases bel <;> simp [mkB] at h <;> subst h <;> rfl
      | _ => simp [mkB] at h <;> subst h <;> rfl
    | succ j => simpa using mkBs_mut (r := r) (j := j) (by simpa [mkBs] using h)

theorem allow_cons {ks : List SK} {c0 : Nat} {ms : List SK} {n : Nat} {g h : Nat → Nat → Int} {F k : Nat} {own : Bool} (hk : n ≤ k) : (∀ φ L x, Blk.foot φ (.nrows ks c0 ms n g h F (.below k) own) L x ↔ Blk.foot φ (.nrows ks c0 ms n g h F .all own) L x) ∧
    ∀ {φ L heap}, RepB φ L heap (.nrows ks c0 ms n g h F (.below k) own) → RepB φ L heap (.nrows ks c0 ms n g h F .all own) := by
  have hb : ∀ i, i < n → (Ow.below k).has i := fun i hi => Nat.lt_of_lt_of_le hi hk
  refine ⟨fun φ L x => ⟨?_, ?_⟩, fun {φ L heap} hB => ?_⟩
  · rintro (q | ⟨LF, i, q1, q2, _, q4⟩)
    · exact .inl q
    · exact .inr ⟨LF, i, q1, q2, trivial, q4⟩
  · rintro (q | ⟨LF, i, q1, q2, _, q4⟩)
    · exact .inl q
    · exact .inr ⟨LF, i, q1, q2, hb i q2, q4⟩
  · obtain ⟨h1, h2, h3, LF, hF, h4, h5, h6⟩ := hB
    exact ⟨h1, h2, h3, LF, hF, h4.imp id fun ⟨cs, t, fr, k1, k2, k3, k4⟩ => ⟨cs, t, fr, k1, k2, k3, fun i c sk hi hc => let ⟨v, e1, e2, e3⟩ := k4 i c sk hi hc; ⟨v, e1, e2, fun e _ => e3 e (hb i hi)⟩⟩,
      fun i hi _ => h5 i hi (hb i hi), fun ho i hi _ => ⟨(h6 ho i hi (hb i hi)).1, fun j hj _ => (h6 ho i hi (hb i hi)).2 j hj (hb j hj)⟩⟩

def Words (H H' : AH) : Prop := All2 (fun b b' => b = b' ∨ ∃ B B', b = some B ∧ b' = some B' ∧ B.mut = B'.mut ∧ (∀ φ L x, B.foot φ L x ↔ B'.foot φ L x) ∧ ∀ {φ L heap}, RepB φ L heap B → RepB φ L heap B') H H'

theorem allow_words : ∀ {H H' : AH}, (allow H).val = some H' → Words H H'
  | [], H', h => by simp only [allow] at h; have := val_ok h; subst this; trivial
  | none :: r, H', h => by
    simp only [allow, Tr.val_bind] at h
    obtain ⟨r', h1, h2⟩ := Option.bind_eq_some_iff.1 h
    have := val_ok h2; subst this
    exact ⟨.inl rfl, allow_words h1⟩
  | some B :: r, H', h => by
    have plain : ((allow r).bind fun r' => .ok (some B :: r')).val = some H' → Words (some B :: r) H' := by
      intro h
      rw [Tr.val_bind] at h
      obtain ⟨r', h1, h2⟩ := Option.bind_eq_some_iff.1 h
      have := val_ok h2; subst this
      exact ⟨.inl rfl, allow_words h1⟩
    cases B with
    | cells l => exact plain h
    | roc l => exact plain h
    | rows ks n g own => exact plain h
    | nrows ks c0 ms n g hh F ow own =>
      cases ow with
      | all => exact plain h
      | but i => exact plain h
      | below k =>
        simp only [allow, Tr.val] at h
        split at h
        · rename_i hk
          rw [Tr.val_bind] at h
          obtain ⟨r', h1, h2⟩ := Option.bind_eq_some_iff.1 h
          have := val_ok h2; subst this
          obtain ⟨e1, e2⟩ := allow_cons (ks := ks) (c0 := c0) (ms := ms) (g := g) (h := hh) (F := F) (own := own) (Nat.le_of_ble_eq_true hk)
          exact ⟨.inr ⟨_, _, rfl, rfl, rfl, e1, e2⟩, allow_words h1⟩
        · cases h

theorem Words.get_r {H H' : AH} (h : Words H H') {id : Nat} {B' : Blk} (hB : H'[id]? = some (some B')) : ∃ B, H[id]? = some (some B) ∧ B.mut = B'.mut ∧ (∀ φ L x, B.foot φ L x ↔ B'.foot φ L x) ∧ ∀ {φ L heap}, RepB φ L heap B → RepB φ L heap B' := by
  obtain ⟨b, h1, h2⟩ := All2.get_r h hB
  rcases h2 with rfl | ⟨B, B'', rfl, e, e1, e2, e3⟩
  · exact ⟨B', h1, rfl, fun _ _ _ => Iff.rfl, fun h => h⟩
  · cases e; exact ⟨B, h1, e1, e2, e3⟩

theorem Words.rep {H H' : AH} {φ : Phi} {heap : Array Obj} (h : Words H H') (hr : Rep φ H heap) : Rep φ H' heap := by
  refine ⟨by rw [hr.len]; exact All2.length_eq h, fun id B' hB => ?_, fun id id' B B' L L' b hB hB' hL hL' hne hm z z' => ?_⟩
  · obtain ⟨B, h1, _, _, h4⟩ := h.get_r hB
    obtain ⟨L, e1, e2⟩ := hr.blk id B h1
    exact ⟨L, e1, h4 e2⟩
  · obtain ⟨C, h1, h2, h3, _⟩ := h.get_r hB
    obtain ⟨C', h1', _, h3', _⟩ := h.get_r hB'
    exact hr.apart id id' C C' L L' b h1 h1' hL hL' hne (by rw [h2]; exact hm) ((h3 _ _ _).2 z) ((h3' _ _ _).2 z')

theorem Words.ext {H H' : AH} {φ0 φ : Phi} {H0 : AH} {w w' : World} (h : Words H H') (hr : Ext φ0 H0 w φ H w') : Ext φ0 H0 w φ H' w' := by
  refine ⟨⟨hr.size, hr.pre, hr.frame, fun id B' L b hB hL hf => ?_⟩, hr.os, hr.output, hr.tape⟩
  obtain ⟨B, h1, h2, h3, _⟩ := h.get_r hB
  rcases hr.img id B L b h1 hL ((h3 _ _ _).2 hf) with q | ⟨id0, B0, L0, e1, e2, e3, e4⟩
  · exact .inl q
  · exact .inr ⟨id0, B0, L0, e1, e2, e3, fun hm => e4 (by rw [h2]; exact hm)⟩

section
variable {P : Program} {Γ : Specs} {sy : Nat → Option Nat} {Lp : Loops} {fuel : Nat}

theorem calls_locV (targs : List TV) (hΓ : SpecOK P Γ) (hm : P.follows .mixedOrders = true) {f : FuncId} {fn : Func} (hf : P.funcs[f]? = some fn) (ish osh : FSh) (hL : LoopsFn P ish.hp.length Lp fn) {l r : List At}
    (hT : ∃ r', ((call P Γ sy Lp fuel fn targs (mkH ish l)).bind (leafO ish.hp.length osh)).val = some r' ∧ AtsEq r' r) {φ0 : Phi} {w : World} {args : List Value} (hrep : Rep φ0 (mkH ish l) w.heap) (hargs : All2 (relT φ0) targs args) :
    Calls P f args.toArray w fun e w' => ∃ v φ2, e = .returned v ∧ All2 (relT φ2) (mkV osh r) [v] ∧ Rep φ2 (mkH osh r) w'.heap ∧ Ext φ0 (mkH ish l) w φ2 (mkH osh r) w' ∧ ∀ j, j < ish.hp.length → φ2[j]? = φ0[j]? := by
  obtain ⟨r', hr', heq⟩ := hT
  rw [Tr.val_bind] at hr'
  obtain ⟨⟨tv, H1⟩, h1, h2⟩ := Option.bind_eq_some_iff.1 hr'
  refine (calls_am (φ := φ0) (H := mkH ish l) hΓ hm hf (by rw [mkH_length]; exact hL) hargs hrep (R := fun a b => a = tv ∧ b = H1) ⟨(tv, H1), h1, rfl, rfl⟩).mono ?_
  rintro e w' ⟨v, φ1, tv1, H1', rfl, ⟨rfl, rfl⟩, g2, g3, g4⟩
  have fin : ∀ {H2 : AH} {σ : List Src} {l2 : List At}, takeF ish.hp.length osh [tv1] H2 = some (σ, l2) → l2 = r' → Rep φ1 H2 w'.heap → Ext φ0 (mkH ish l) w φ1 H2 w' →
      ∃ v' φ2, Ending.returned v = .returned v' ∧ All2 (relT φ2) (mkV osh r) [v'] ∧ Rep φ2 (mkH osh r) w'.heap ∧ Ext φ0 (mkH ish l) w φ2 (mkH osh r) w' ∧ ∀ j, j < ish.hp.length → φ2[j]? = φ0[j]? := by
    intro H2 σ l2 ht e g3 g4
    subst e
    have hk : ish.hp.length = (mkH ish l).length := mkH_length.symm
    rw [hk] at ht
    obtain ⟨φ2, k1, k2, k3, k4⟩ := ext_take ht hrep.len g4 g3 (vs := [v]) ⟨g2, trivial⟩
    exact ⟨v, φ2, rfl, by rw [← mkV_eq heq]; exact k2, rep_eq k1 (mkH_eq heq osh), ext_eq k3 (mkH_eq heq osh), fun j hj => k4 j (by rw [mkH_length]; exact hj)⟩
  unfold leafO at h2
  split at h2
  · rename_i σ l2 ht
    exact fin ht (val_ok h2) g3 g4
  · rw [Tr.val_bind] at h2
    obtain ⟨H2, q1, q2⟩ := Option.bind_eq_some_iff.1 h2
    have hw := allow_words q1
    split at q2
    · rename_i σ l2 ht
      exact fin ht (val_ok q2) (hw.rep g3) (hw.ext g4)
    · simp [Tr.val] at q2

theorem calls_loc (hΓ : SpecOK P Γ) (hm : P.follows .mixedOrders = true) {f : FuncId} {fn : Func} (hf : P.funcs[f]? = some fn) (ish osh : FSh) (hL : LoopsFn P ish.hp.length Lp fn) {l r : List At}
    (hT : ∃ r', ((call P Γ sy Lp fuel fn (mkV ish l) (mkH ish l)).bind (leafO ish.hp.length osh)).val = some r' ∧ AtsEq r' r) {φ0 : Phi} {w : World} {args : List Value} (hrep : Rep φ0 (mkH ish l) w.heap) (hargs : All2 (relT φ0) (mkV ish l) args) :
    Calls P f args.toArray w fun e w' => ∃ v φ2, e = .returned v ∧ All2 (relT φ2) (mkV osh r) [v] ∧ Rep φ2 (mkH osh r) w'.heap ∧ Ext φ0 (mkH ish l) w φ2 (mkH osh r) w' ∧ ∀ j, j < ish.hp.length → φ2[j]? = φ0[j]? :=
  calls_locV (mkV ish l) hΓ hm hf ish osh hL hT hrep hargs

theorem calls_locs (hΓ : SpecOK P Γ) (hm : P.follows .mixedOrders = true) {f : FuncId} {fn : Func} (hf : P.funcs[f]? = some fn) (ish : FSh) (oshs : List FSh) (hL : LoopsFn P ish.hp.length Lp fn) {l : List At} {r : Nat × List At}
    (hT : ∃ r', ((call P Γ sy Lp fuel fn (mkV ish l) (mkH ish l)).bind (leafOs ish.hp.length 0 oshs)).val = some r' ∧ r'.1 = r.1 ∧ AtsEq r'.2 r.2) {φ0 : Phi} {w : World} {args : List Value} (hrep : Rep φ0 (mkH ish l) w.heap) (hargs : All2 (relT φ0) (mkV ish l) args) :
    Calls P f args.toArray w fun e w' => ∃ v φ2 osh, oshs[r.1]? = some osh ∧ e = .returned v ∧ All2 (relT φ2) (mkV osh r.2) [v] ∧ Rep φ2 (mkH osh r.2) w'.heap ∧ Ext φ0 (mkH ish l) w φ2 (mkH osh r.2) w' ∧ ∀ j, j < ish.hp.length → φ2[j]? = φ0[j]? := by
  obtain ⟨r', hr', hr1, heq⟩ := hT
  rw [Tr.val_bind] at hr'
  obtain ⟨⟨tv, H1⟩, h1, h2⟩ := Option.bind_eq_some_iff.1 hr'
  have key : ∀ {os : List FSh} {j : Nat}, (leafOs ish.hp.length j os (tv, H1)).val = some r' → ∃ osh σ, os[r'.1 - j]? = some osh ∧ j ≤ r'.1 ∧ takeF ish.hp.length osh [tv] H1 = some (σ, r'.2) := by
    intro os
    induction os with
    | nil => intro j h; simp [leafOs, Tr.val] at h
    | cons osh os ih =>
      intro j h
      simp only [leafOs] at h
      split at h
      · rename_i σ l2 ht
        have := val_ok h
        subst this
        exact ⟨osh, σ, by simp, Nat.le_refl _, ht⟩
      · obtain ⟨osh', σ, e1, e2, e3⟩ := ih h
        refine ⟨osh', σ, ?_, by omega, e3⟩
        rw [show r'.1 - j = (r'.1 - (j + 1)) + 1 by omega]
        simpa using e1
  obtain ⟨osh, σ, ho, _, ht⟩ := key h2
  rw [Nat.sub_zero, hr1] at ho
  refine (calls_am (φ := φ0) (H := mkH ish l) hΓ hm hf (by rw [mkH_length]; exact hL) hargs hrep (R := fun a b => a = tv ∧ b = H1) ⟨(tv, H1), h1, rfl, rfl⟩).mono ?_
  rintro e w' ⟨v, φ1, tv1, H1', rfl, ⟨rfl, rfl⟩, g2, g3, g4⟩
  have hk : ish.hp.length = (mkH ish l).length := mkH_length.symm
  rw [hk] at ht
  obtain ⟨φ2, k1, k2, k3, k4⟩ := ext_take ht hrep.len g4 g3 (vs := [v]) ⟨g2, trivial⟩
  exact ⟨v, φ2, osh, ho, rfl, by rw [← mkV_eq heq]; exact k2, rep_eq k1 (mkH_eq heq osh), ext_eq k3 (mkH_eq heq osh), fun j hj => k4 j (by rw [mkH_length]; exact hj)⟩

theorem spec_locs (hΓ : SpecOK P Γ) (hm : P.follows .mixedOrders = true) {f : FuncId} {fn : Func} (hf : fnOk P f fn) (ish : FSh) (oshs : List FSh) (hL : LoopsFn P ish.hp.length Lp fn) {T : List At → Tr (Nat × List At)}
    (hT : ∀ l r, (T l).val = some r → ∃ r', ((call P Γ sy Lp fuel fn (mkV ish l) (mkH ish l)).bind (leafOs ish.hp.length 0 oshs)).val = some r' ∧ r'.1 = r.1 ∧ AtsEq r'.2 r.2) : SpecF P f (.eff (locFs ish oshs T)) := by
  refine .inr ⟨⟨fn, hf⟩, fun φ H w targs args tv H' happ hrep hargs => ?_, fun targs H tv H' X j h ha hX hj hn => locFs_keeps h ha hX hj hn⟩
  simp only [Spec.app] at happ
  unfold locFs at happ
  split at happ
  · rename_i σ l ht
    rw [Tr.val_bind] at happ
    obtain ⟨r, hr, happ⟩ := Option.bind_eq_some_iff.1 happ
    split at happ
    · rename_i osh ho
      split at happ
      · rename_i v0 hv0
        split at happ
        · rename_i v' H1 hren hglob
          rw [forceL_eq] at happ
          have happ := val_ok happ
          simp only [Prod.mk.injEq] at happ
          obtain ⟨rfl, rfl⟩ := happ
          obtain ⟨φ0, e1, e2, e3, _, e5⟩ := takeF_sound ht hrep (Nat.zero_le _) hargs
          refine (calls_locs hΓ hm hf.1 ish oshs hL (hT l r hr) e2 e3).mono ?_
          rintro e w' ⟨v, φ2, osh', ho', rfl, g1, g2, g3, g4⟩
          rw [ho] at ho'; cases ho'
          rw [hv0] at g1
          obtain ⟨k1, k2, k3⟩ := frame_back hrep e1 e5 (fun j B hB => mkBs_mut hB) g2 g3 hglob
          refine ⟨v, φ ++ φ2, rfl, renT_rel k3 (by rw [hrep.len]; exact hren) g1.1, k1, k2⟩
        · simp [Tr.val] at happ
      · simp [Tr.val] at happ
    · simp [Tr.val] at happ
  · simp [Tr.val] at happ

theorem spec_loc (hΓ : SpecOK P Γ) (hm : P.follows .mixedOrders = true) {f : FuncId} {fn : Func} (hf : fnOk P f fn) (ish osh : FSh) (hL : LoopsFn P ish.hp.length Lp fn) {T : List At → Tr (List At)}
    (hT : ∀ l r, (T l).val = some r → ∃ r', ((call P Γ sy Lp fuel fn (mkV ish l) (mkH ish l)).bind (leafO ish.hp.length osh)).val = some r' ∧ AtsEq r' r) : SpecF P f (.eff (locF ish osh T)) := by
  refine .inr ⟨⟨fn, hf⟩, fun φ H w targs args tv H' happ hrep hargs => ?_, fun targs H tv H' X j h ha hX hj hn => locF_keeps h ha hX hj hn⟩
  simp only [Spec.app] at happ
  unfold locF at happ
  split at happ
  · rename_i σ l ht
    rw [Tr.val_bind] at happ
    obtain ⟨r, hr, happ⟩ := Option.bind_eq_some_iff.1 happ
    split at happ
    · rename_i v0 hv0
      split at happ
      · rename_i v' H1 hren hglob
        rw [forceL_eq] at happ
        have happ := val_ok happ
        simp only [Prod.mk.injEq] at happ
        obtain ⟨rfl, rfl⟩ := happ
        obtain ⟨φ0, e1, e2, e3, _, e5⟩ := takeF_sound ht hrep (Nat.zero_le _) hargs
        refine (calls_loc hΓ hm hf.1 ish osh hL (hT l r hr) e2 e3).mono ?_
        rintro e w' ⟨v, φ2, rfl, g1, g2, g3, g4⟩
        rw [hv0] at g1
        obtain ⟨k1, k2, k3⟩ := frame_back hrep e1 e5 (fun j B hB => mkBs_mut hB) g2 g3 hglob
        refine ⟨v, φ ++ φ2, rfl, renT_rel k3 (by rw [hrep.len]; exact hren) g1.1, k1, k2⟩
      · simp [Tr.val] at happ
    · simp [Tr.val] at happ
  · simp [Tr.val] at happ

theorem spec_fork (hΓ : SpecOK P Γ) (hm : P.follows .mixedOrders = true) {f : FuncId} {fn : Func} (hf : fnOk P f fn) (wd : Nat) (ks : List SK) (osh : FSh) (hL : LoopsFn P 1 Lp fn) {T : List At → Tr (List At)} {sy' : Nat → Option Nat}
    (hZ : ∀ l r, (T l).val = some r → ∃ r', ((call P Γ sy Lp fuel fn [.v (.s (.slz 0 wd 0 (aRn l 0)))] (mkH ⟨[.v false [.vw 0 wd]], [.rows ks false]⟩ l)).bind (leafO 1 osh)).val = some r' ∧ AtsEq r' r)
    (hN : ∀ l r, (T l).val = some r → aRn l 0 = 0 → ∃ r', ((call P Γ sy' Lp fuel fn [.v (.s .slnil)] (mkH ⟨[.v false [.vw 0 wd]], [.rows ks false]⟩ l)).bind (leafO 1 osh)).val = some r' ∧ AtsEq r' r) :
    SpecF P f (.eff (locF ⟨[.v false [.vw 0 wd]], [.rows ks false]⟩ osh T)) := by
  refine .inr ⟨⟨fn, hf⟩, fun φ H w targs args tv H' happ hrep hargs => ?_, fun targs H tv H' X j h ha hX hj hn => locF_keeps h ha hX hj hn⟩
  simp only [Spec.app] at happ
  unfold locF at happ
  split at happ
  · rename_i σ l ht
    rw [Tr.val_bind] at happ
    obtain ⟨r, hr, happ⟩ := Option.bind_eq_some_iff.1 happ
    split at happ
    · rename_i v0 hv0
      split at happ
      · rename_i v' H1 hren hglob
        rw [forceL_eq] at happ
        have happ := val_ok happ
        simp only [Prod.mk.injEq] at happ
        obtain ⟨rfl, rfl⟩ := happ
        obtain ⟨φ0, e1, e2, e3, _, e5⟩ := takeF_sound ht hrep (Nat.zero_le _) hargs
        have fin : (∃ ts sy'', All2 (relT φ0) ts args ∧ ∃ r', ((call P Γ sy'' Lp fuel fn ts (mkH ⟨[.v false [.vw 0 wd]], [.rows ks false]⟩ l)).bind (leafO 1 osh)).val = some r' ∧ AtsEq r' r) →
            Calls P f args.toArray w fun e w' => ∃ v φ', e = .returned v ∧ relT φ' v' v ∧ Rep φ' H1 w'.heap ∧ Ext φ H w φ' H1 w' := by
          rintro ⟨ts, sy'', hts, hcall⟩
          refine (calls_locV (sy := sy'') ts hΓ hm hf.1 ⟨[.v false [.vw 0 wd]], [.rows ks false]⟩ osh hL hcall e2 hts).mono ?_
          rintro e w' ⟨v, φ2, rfl, g1, g2, g3, g4⟩
          rw [hv0] at g1
          obtain ⟨k1, k2, k3⟩ := frame_back hrep e1 e5 (fun j B hB => mkBs_mut hB) g2 g3 hglob
          exact ⟨v, φ ++ φ2, rfl, renT_rel k3 (by rw [hrep.len]; exact hren) g1.1, k1, k2⟩
        have e3' : All2 (relT φ0) [.v (.s (.slq 0 wd 0 (aRn l 0)))] args := e3
        match args, e3' with
        | [v], ⟨hv, _⟩ =>
          have hv : (aRn l 0 = 0 ∧ ∃ a, v = .slice a 0 0) ∨ ∃ L cap, φ0[0]? = some L ∧ aRn l 0 ≤ cap ∧ 0 + aRn l 0 ≤ L.n ∧ v = .slice (some ⟨L.b, L.base + 0 * wd, none⟩) (aRn l 0) cap := hv
          rcases hv with ⟨h0, a, rfl⟩ | hv
          · cases a with
            | none => exact fin ⟨[.v (.s .slnil)], sy', ⟨rfl, trivial⟩, hN l r hr h0⟩
            | some a => exact fin ⟨[.v (.s (.slz 0 wd 0 (aRn l 0)))], sy, ⟨.inl ⟨h0, a, rfl⟩, trivial⟩, hZ l r hr⟩
          · exact fin ⟨[.v (.s (.slz 0 wd 0 (aRn l 0)))], sy, ⟨.inr hv, trivial⟩, hZ l r hr⟩
      · simp [Tr.val] at happ
    · simp [Tr.val] at happ
  · simp [Tr.val] at happ

theorem loc_read (hΓ : SpecOK P Γ) (hm : P.follows .mixedOrders = true) {f : FuncId} {fn : Func} (hf : fnOk P f fn) (ish osh : FSh) (hro : (ish.hp.all fun b => !b.mut) = true) (hL : LoopsFn P ish.hp.length Lp fn) {T : List At → Tr (List At)}
    (hT : ∀ l r, (T l).val = some r → ∃ r', ((call P Γ sy Lp fuel fn (mkV ish l) (mkH ish l)).bind (leafO ish.hp.length osh)).val = some r' ∧ AtsEq r' r)
    {φ : Phi} {H : AH} {w : World} {targs : List TV} {args : List Value} {tv : TV} (happ : (locR ish osh T targs H).val = some tv) (hrep : Rep φ H w.heap) (hargs : All2 (relT φ) targs args) :
    Calls P f args.toArray w fun e w' => ∃ v, e = .returned v ∧ (∀ ψ, relT ψ tv v) ∧ (∀ b, b < w.heap.size → w'.heap[b]? = w.heap[b]?) ∧ w.heap.size ≤ w'.heap.size ∧ w'.os = w.os ∧ w'.output = w.output ∧ w'.tape = w.tape := by
  unfold locR at happ
  split at happ
  · rename_i σ l ht
    rw [Tr.val_bind] at happ
    obtain ⟨r, hr, happ⟩ := Option.bind_eq_some_iff.1 happ
    split at happ
    · rename_i v0 hv0
      split at happ
      · rename_i hc
        have := val_ok happ
        subst this
        obtain ⟨φ0, e1, e2, e3, _, e5⟩ := takeF_sound ht hrep (Nat.zero_le _) hargs
        refine (calls_loc hΓ hm hf.1 ish osh hL (hT l r hr) e2 e3).mono ?_
        rintro e w' ⟨v, φ2, rfl, g1, g2, g3, g4⟩
        rw [hv0] at g1
        refine ⟨v, rfl, fun ψ => closedT_rel hc g1.1, fun b hb => g3.frame b hb fun id B L h1 h2 h3 h4 => ?_, g3.size, g3.os, g3.output, g3.tape⟩
        obtain ⟨bb, k1, k2⟩ := mkBs_mut h1
        have := List.all_eq_true.1 hro bb (List.mem_of_getElem? k1)
        rw [k2, h2] at this
        cases this
      · simp [Tr.val] at happ
    · simp [Tr.val] at happ
  · simp [Tr.val] at happ

theorem spec_read (hΓ : SpecOK P Γ) (hm : P.follows .mixedOrders = true) {f : FuncId} {fn : Func} (hf : fnOk P f fn) (ish osh : FSh) (hro : (ish.hp.all fun b => !b.mut) = true) (hL : LoopsFn P ish.hp.length Lp fn) {T : List At → Tr (List At)}
    (hT : ∀ l r, (T l).val = some r → ∃ r', ((call P Γ sy Lp fuel fn (mkV ish l) (mkH ish l)).bind (leafO ish.hp.length osh)).val = some r' ∧ AtsEq r' r) : SpecF P f (.read (locR ish osh T)) := by
  refine .inr ⟨⟨fn, hf⟩, fun φ H w targs args tv H' happ hrep hargs => ?_, fun targs H tv B h => locR_mono h⟩
  simp only [Spec.app, Tr.val_bind, Option.bind_eq_some_iff] at happ
  obtain ⟨tv', hF, happ⟩ := happ
  have happ := val_ok happ
  simp only [Prod.mk.injEq] at happ
  obtain ⟨rfl, rfl⟩ := happ
  refine (loc_read hΓ hm hf ish osh hro hL hT hF hrep hargs).mono ?_
  rintro e w' ⟨v, rfl, g1, g2, g3, g4, g5, g6⟩
  exact ⟨v, φ, rfl, g1 φ, hrep.of_heap g2, ⟨⟨g3, ⟨[], by simp⟩, fun b hb _ => g2 b hb, fun i B L _ h1 h2 h3 => .inr ⟨i, B, L, h1, h2, h3, fun h => h⟩⟩, g4, g5, g6⟩⟩

theorem spec_locP (hΓ : SpecOK P Γ) (hm : P.follows .mixedOrders = true) {f : FuncId} {fn : Func} (hf : fnOk P f fn) (ish osh : FSh) (hro : ish.hp = []) (hL : LoopsFn P 0 Lp fn) {T : List At → Tr (List At)}
    (hT : ∀ l r, (T l).val = some r → ∃ r', ((call P Γ sy Lp fuel fn (mkV ish l) (mkH ish l)).bind (leafO ish.hp.length osh)).val = some r' ∧ AtsEq r' r) : SpecF P f (.pure (locP ish osh T)) := by
  refine .inr ⟨⟨fn, hf⟩, fun φ H w targs args tv H' happ hrep hargs => ?_, trivial⟩
  simp only [Spec.app, Tr.val_bind, Option.bind_eq_some_iff] at happ
  obtain ⟨tv', hF, happ⟩ := happ
  have happ := val_ok happ
  simp only [Prod.mk.injEq] at happ
  obtain ⟨rfl, rfl⟩ := happ
  unfold locP at hF
  split at hF
  · rename_i hcl
    refine (loc_read (φ := []) (H := []) hΓ hm hf ish osh (by rw [hro]; rfl) (by rw [hro]; exact hL) hT hF (rep_nil _) (all_closed (R := relT) (fun a v => closedT_rel) hcl hargs)).mono ?_
    rintro e w' ⟨v, rfl, g1, g2, g3, g4, g5, g6⟩
    exact ⟨v, φ, rfl, g1 φ, hrep.of_heap g2, ⟨⟨g3, ⟨[], by simp⟩, fun b hb _ => g2 b hb, fun i B L _ h1 h2 h3 => .inr ⟨i, B, L, h1, h2, h3, fun h => h⟩⟩, g4, g5, g6⟩⟩
  · simp [Tr.val] at hF

theorem hT_of {fn : Func} {ish osh : FSh} {T T' : List At → Tr (List At)} (e : ∀ l, (call P Γ sy Lp fuel fn (mkV ish l) (mkH ish l)).bind (leafO ish.hp.length osh) = T l) (h : ∀ l r, (T' l).val = some r → ∃ r', (T l).val = some r' ∧ AtsEq r' r) :
    ∀ l r, (T' l).val = some r → ∃ r', ((call P Γ sy Lp fuel fn (mkV ish l) (mkH ish l)).bind (leafO ish.hp.length osh)).val = some r' ∧ AtsEq r' r := fun l r hr => by
  obtain ⟨r', h1, h2⟩ := h l r hr
  exact ⟨r', by rw [e l]; exact h1, h2⟩
end
end Go.AM
end
