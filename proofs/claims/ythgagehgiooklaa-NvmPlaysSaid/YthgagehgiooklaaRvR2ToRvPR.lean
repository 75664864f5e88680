/-
  All calls of the reference's memory, in plain words.
-/
import Derived.Test.YthgagehgiooklaaRvG4ToRvG13
import Derived.KernelRfl
import Derived.Test.YthgagehgiooklaaG8ToRvS1
section
namespace Go.Proofs.Ythgagehgiooklaa.G
open Go Go.AM Go.Proofs

/-! ### plain words -/

def RMem.ldC (y : RMem) (i : Int) : Int := bif !y.is i then 1 else bif y.off then 4 else 0
def RMem.ldW (y : RMem) (i : Int) (c : Nat) : Int := bif y.ldC i == 0 then rsS (y.S i.toNat) (y.L i.toNat) (y.G i.toNat 0).toNat c else 0
def RMem.feC (y : RMem) (c : Int) : Int := bif corR c then 1 else y.cod
def RMem.feM (y : RMem) (c : Int) : RMem := bif corR c then y else bif y.po then y.stp else y.stp.feF c.toNat 0
def RMem.ebad (y : RMem) (i x : Int) : Bool := !y.is i || decide (x < 0)
def revK (c x : Int) : Int := if c < x then c else x
def RMem.evC (y : RMem) (i x : Int) : Int := bif y.ebad i x then 1 else bif y.off then 4 else 0
def RMem.evM (y : RMem) (i x : Int) : RMem := bif y.ebad i x then y else bif y.off then y else y.suM i (revK (y.G i.toNat 0) x)
def RMem.fuM (y : RMem) (x : Int) : RMem := ⟨y.n, y.S, y.k, y.G, y.L, y.off, if -1 > x then -1 else x, y.count⟩
def RMem.crM (y : RMem) (q : Nat → Int) (kn : Nat) : RMem := ⟨y.n, (y.crF q kn 0 0).S, y.k, (y.crF q kn 0 0).G, y.L, false, -1, y.count⟩
def rnewR (n : Nat) (S : Nat → Nat → Int) : RMem := ⟨n, S, n, fun _ _ => 0, fun _ _ => 0, false, -1, 0⟩

/-! ### a memory stays one that may be -/

theorem ris_yes {y : RMem} {i : Int} (h : y.is i = true) : 0 ≤ i ∧ i < y.n := by
  unfold RMem.is at h
  simpa using h
theorem ris_no {y : RMem} {i : Int} (h : y.is i = false) : ¬ (0 ≤ i ∧ i < y.n) := by
  intro hh
  unfold RMem.is at h
  simp [hh.1, hh.2] at h
theorem rbad_no {y : RMem} {i x : Int} (h : y.bad i x = false) : (0 ≤ i ∧ i < y.n) ∧ 0 ≤ x ∧ x < 8 := by
  unfold RMem.bad at h
  simp only [Bool.or_eq_false_iff, decide_eq_false_iff_not, Bool.not_eq_false'] at h
  exact ⟨ris_yes h.1.1, by omega, by omega⟩
theorem rleft_ok {y : RMem} {K : Int} (h : y.Ok K) : -1 ≤ y.stp.left ∧ y.stp.left ≤ 9223372036854775807 := by
  show -1 ≤ rleftI y.off y.left ∧ rleftI y.off y.left ≤ 9223372036854775807
  have := h.1
  unfold rleftI
  cases rpoB y.off y.left with
  | true => exact this
  | false =>
    show -1 ≤ (bif decide (y.left > 0) then y.left - 1 else y.left) ∧ (bif decide (y.left > 0) then y.left - 1 else y.left) ≤ 9223372036854775807
    by_cases hl : y.left > 0
    · rw [decide_eq_true hl]; show -1 ≤ y.left - 1 ∧ y.left - 1 ≤ _; omega
    · rw [decide_eq_false hl]; exact this
theorem rcount_stp (y : RMem) : y.stp.count = if y.po then y.count else y.count + 1 := by
  show rcntI y.off y.left y.count = _
  unfold rcntI RMem.po
  cases rpoB y.off y.left <;> rfl
theorem rstp_ok {y : RMem} {K : Int} (h : y.Ok K) : y.stp.Ok (K + 1) := by
  have hs : y.stp.count = y.count ∨ y.stp.count = y.count + 1 := by rw [rcount_stp]; split <;> simp
  refine ⟨rleft_ok h, ⟨?_, ?_⟩, h.2.2.1, fun i hi => ⟨(h.2.2.2 i hi).1, ?_⟩⟩
  · have := h.2.1.1; omega
  · have := h.2.1.2; omega
  · show y.G i 0 ≤ y.stp.count
    have := (h.2.2.2 i hi).2
    omega
theorem rpo_no {y : RMem} (h : y.po = false) : y.stp.count = y.count + 1 := by rw [rcount_stp, h]; rfl
theorem rwit_ok {y : RMem} {K : Int} {S G L : Nat → Nat → Int} (h : y.Ok K) (hr : ∀ i, i < y.n → RRowOk (G i 0) (L i) ∧ G i 0 ≤ y.count) : (y.wit S G L).Ok K := ⟨h.1, h.2.1, h.2.2.1, hr⟩

theorem rrow_st {c w v : Int} {hr : Nat → Int} (h : RRowOk c hr) (hc : c < 1000000) (hw : 0 ≤ w ∧ w < 8) : RRowOk (c + 1) (rstR hr c.toNat w v) := by
  obtain ⟨h1, h2, h3⟩ := h
  refine ⟨by omega, by omega, fun j hj => ?_⟩
  unfold rstR
  by_cases hjc : j < c.toNat
  · rw [if_pos (by omega)]; exact h3 j (by omega)
  · rw [if_neg (by omega), if_pos (by omega)]; exact hw
theorem rrow_su {c m : Int} {hr : Nat → Int} (h : RRowOk c hr) (hm : 0 ≤ m ∧ m ≤ c) : RRowOk (c - m) (rsL hr m.toNat) := by
  obtain ⟨h1, h2, h3⟩ := h
  refine ⟨by omega, by omega, fun j hj => ?_⟩
  unfold rsL
  rw [show j * 10 + 10 * m.toNat = (j + m.toNat) * 10 by omega]
  exact h3 (j + m.toNat) (by omega)
theorem rrow_fl {c : Int} {hr : Nat → Int} {k core : Nat} (h : RRowOk c hr) : RRowOk c (rflR hr k core) := by
  obtain ⟨h1, h2, h3⟩ := h
  refine ⟨h1, h2, fun j hj => ?_⟩
  unfold rflR
  rw [if_neg (by omega)]
  exact h3 j hj

theorem rstM_ok {y : RMem} {K : Int} {i w v : Int} (h : y.Ok K) (hK : K < 1000000) : (y.stM i w v).Ok (K + 1) := by
  unfold RMem.stM
  cases hb : y.bad i w with
  | true => exact h.mono (by omega)
  | false =>
    cases hp : y.po with
    | true => exact rstp_ok h
    | false =>
      obtain ⟨⟨h0, h1⟩, h2, h3⟩ := rbad_no hb
      refine rwit_ok (rstp_ok h) fun j hj => ?_
      obtain ⟨hr, hs⟩ := h.2.2.2 j hj
      have hK2 := h.2.1.2
      rw [rpo_no hp, updG_row]
      by_cases hji : j = i.toNat
      · subst hji
        rw [updR_self, updR_self, if_pos rfl]
        exact ⟨rrow_st hr (by omega) ⟨h2, h3⟩, by omega⟩
      · rw [updR_ne hji, updR_ne hji]
        exact ⟨hr, by omega⟩
theorem rsuM_ok {y : RMem} {K : Int} {i m : Int} (h : y.Ok K) (hi : 0 ≤ i ∧ i < y.n) (hm : 0 ≤ m ∧ m ≤ y.G i.toNat 0) : (y.suM i m).Ok K := by
  refine rwit_ok h fun j hj => ?_
  obtain ⟨hr, hs⟩ := h.2.2.2 j hj
  rw [updG_row]
  by_cases hji : j = i.toNat
  · subst hji
    rw [updR_self, updR_self, if_pos rfl]
    exact ⟨rrow_su hr hm, by omega⟩
  · rw [updR_ne hji, updR_ne hji]
    exact ⟨hr, hs⟩
theorem rflM_ok {y : RMem} {K : Int} {c i : Int} (h : y.Ok K) : (y.flM c i).Ok (K + 1) := by
  unfold RMem.flM
  cases hb : (corR c || !y.is i) with
  | true => exact h.mono (by omega)
  | false =>
    cases hp : y.po with
    | true => exact rstp_ok h
    | false =>
      refine rwit_ok (rstp_ok h) fun j hj => ?_
      obtain ⟨hr, hs⟩ := h.2.2.2 j hj
      rw [rpo_no hp]
      by_cases hji : j = i.toNat
      · subst hji
        rw [updR_self]
        exact ⟨rrow_fl hr, by omega⟩
      · rw [updR_ne hji]
        exact ⟨hr, by omega⟩
theorem rfeF_ok {y : RMem} {K : Int} {core : Nat} (h : y.Ok K) : (y.feF core 0).Ok K := by
  refine rwit_ok h fun j hj => ?_
  obtain ⟨hr, hs⟩ := h.2.2.2 j hj
  have hle := lastF_le (y.L j) core (y.G j 0).toNat
  have h1 := hr.1
  rw [if_pos ⟨rfl, Nat.zero_le _, hj⟩, if_pos ⟨Nat.zero_le _, hj⟩]
  have e : y.fk core j = ((y.fk core j : Nat) : Int).toNat := (Int.toNat_natCast _).symm
  have hk : ((y.fk core j : Nat) : Int) ≤ y.G j 0 := by unfold RMem.fk; omega
  have := rrow_su hr (m := ((y.fk core j : Nat) : Int)) ⟨by omega, hk⟩
  rw [← e] at this
  exact ⟨this, by omega⟩
theorem rfeM_ok {y : RMem} {K : Int} {c : Int} (h : y.Ok K) : (y.feM c).Ok (K + 1) := by
  unfold RMem.feM
  cases hb : corR c with
  | true => exact h.mono (by omega)
  | false =>
    cases hp : y.po with
    | true => exact rstp_ok h
    | false => exact rfeF_ok (rstp_ok h)
theorem rebad_no {y : RMem} {i x : Int} (h : y.ebad i x = false) : (0 ≤ i ∧ i < y.n) ∧ 0 ≤ x := by
  unfold RMem.ebad at h
  simp only [Bool.or_eq_false_iff, decide_eq_false_iff_not, Bool.not_eq_false'] at h
  exact ⟨ris_yes h.1, by omega⟩
theorem revM_ok {y : RMem} {K : Int} {i x : Int} (h : y.Ok K) : (y.evM i x).Ok K := by
  unfold RMem.evM
  cases hb : y.ebad i x with
  | true => exact h
  | false =>
    cases y.off with
    | true => exact h
    | false =>
      obtain ⟨hi, hx⟩ := rebad_no hb
      refine rsuM_ok h hi ?_
      have := (h.2.2.2 i.toNat (by omega)).1.1
      unfold revK
      split <;> omega
theorem rfuM_ok {y : RMem} {K : Int} {x : Int} (h : y.Ok K) (hx : x ≤ 9223372036854775807) : (y.fuM x).Ok K := by
  refine ⟨?_, h.2.1, h.2.2.1, h.2.2.2⟩
  show -1 ≤ (if -1 > x then -1 else x) ∧ (if -1 > x then -1 else x) ≤ 9223372036854775807
  split <;> omega
theorem rcrM_ok {y : RMem} {K : Int} {q : Nat → Int} {kn : Nat} (h : y.Ok K) : (y.crM q kn).Ok K := by
  refine ⟨⟨by show (-1 : Int) ≤ -1; decide, by show (-1 : Int) ≤ 9223372036854775807; decide⟩, h.2.1, h.2.2.1, fun i hi => ?_⟩
  have e : (y.crM q kn).G i 0 = 0 := if_pos ⟨rfl, Nat.zero_le _, hi⟩
  rw [e]
  exact ⟨⟨Int.le_refl _, by decide, fun j hj => by omega⟩, h.2.1.1⟩
theorem rnewR_ok {n : Nat} {S : Nat → Nat → Int} (h : n ≤ 1073741824) : (rnewR n S).Ok 0 := ⟨⟨by show (-1 : Int) ≤ -1; decide, by show (-1 : Int) ≤ 9223372036854775807; decide⟩, ⟨by show (0 : Int) ≤ 0; decide, by show (0 : Int) ≤ 0; decide⟩, ⟨rfl, h⟩, fun i _ => ⟨⟨Int.le_refl _, by show (0 : Int) ≤ 1000000; decide, fun j hj => by have : (j : Int) < 0 := hj; omega⟩, by show (0 : Int) ≤ 0; decide⟩⟩

/-! ### the calls -/

theorem rcod_po {y : RMem} (h : ¬ y.cod = 0) : y.po = true := by
  unfold RMem.cod rcodI at h
  unfold RMem.po
  cases hp : rpoB y.off y.left with
  | true => rfl
  | false => rw [hp] at h; exact (h rfl).elim
theorem rpo_cod {y : RMem} (h : y.po = false) : y.cod = 0 := by
  unfold RMem.po at h
  unfold RMem.cod rcodI
  rw [h]; rfl
theorem rcod_no {y : RMem} (h : y.cod = 0) : y.po = false := by
  unfold RMem.cod rcodI at h
  unfold RMem.po
  cases hp : rpoB y.off y.left with
  | true => rw [hp] at h; exact absurd h (by decide)
  | false => rfl

theorem rstOk {y : RMem} (h : y.Ok 900000) : stepOk y.left y.count := ⟨h.1, h.2.1.1, by have := h.2.1.2; omega⟩
theorem rhasOk {y : RMem} (h : y.Ok 900000) {i m : Int} (hi : 0 ≤ i ∧ i < y.n) (hm : 0 ≤ m ∧ m ≤ y.G i.toNat 0) : y.hasOk i m := ⟨hm.1, hi, h.2.2.1.1, hm.2, (h.2.2.2 i.toNat (by omega)).1⟩

theorem t_rstore (y : RMem) (i w v : Int) (h : y.Ok 900000) : (T_rstore i w v y.off y.left y.count y.n y.S y.k y.G y.L).sat fun r => AtsEq r (.i (y.stC i w) :: (y.stM i w v).ats) := by
  have bad : y.bad i w = true → AtsEq [.i 1, .b y.off, .i y.left, .i y.count, .r y.n y.S, .q y.k y.G 0 10 y.L] (.i (y.stC i w) :: (y.stM i w v).ats) := fun h => by
    unfold RMem.stC RMem.stM; rw [h]; exact AtsEq.refl _
  unfold T_rstore
  refine brN (fun h1 => Tr.sat_ok.2 (bad (by unfold RMem.bad; rw [show y.is i = false from h1]; rfl))) (fun h1 => brD (fun h2 => Tr.sat_ok.2 (bad (by unfold RMem.bad; rw [decide_eq_true h2]; simp))) fun h2 => brD (fun h3 => Tr.sat_ok.2 (bad (by unfold RMem.bad; rw [decide_eq_true h3]; simp))) fun h3 => ?_)
  have hb : y.bad i w = false := by unfold RMem.bad; rw [show y.is i = true from h1, decide_eq_false h2, decide_eq_false h3]; rfl
  obtain ⟨⟨g0, g1⟩, g2, g3⟩ := rbad_no hb
  have hk := h.2.2.1.1
  obtain ⟨⟨o1, o2, _⟩, _⟩ := h.2.2.2 i.toNat (by omega)
  refine brT (pdec_yes (rstOk h)) (brQ (fun h4 => brT (by simp [within]; omega) (brT (by simp; omega) (brT (by simp; omega) (brT (by simp [within]; omega) (brT rfl (Tr.sat_ok.2 ?_)))))) (fun h4 => Tr.sat_ok.2 ?_))
  · have hp := rcod_no h4
    unfold RMem.stC RMem.stM
    rw [hb, hp]
    have e2 : (((y.G i.toNat 0).toNat + 1 : Nat) : Int) = y.G i.toNat 0 + 1 := by omega
    rw [e2]
    refine atsEq_cons (AtEq.refl _) (atsEq_cons (AtEq.refl _) (atsEq_cons (AtEq.refl _) (atsEq_cons (AtEq.refl _) (atsEq_cons (AtEq.refl _) (atsEq_cons (atEq_qe rfl ?_) atsEq_nil)))))
    funext j k
    show putM y.L i.toNat 10 (appG (fun j c => y.L i.toNat ((0 + j) * 10 + c)) (y.G i.toNat 0).toNat (rowsF [[w, v, 0, 0, 0, 0, 0, 0, 0, 0]])) j k = updR y.L i.toNat (rstR (y.L i.toNat) (y.G i.toNat 0).toNat w v) j k
    unfold putM updR rstR appG
    by_cases hj : j = i.toNat
    · rw [if_pos hj, if_pos hj]
      by_cases hc : k / 10 < (y.G i.toNat 0).toNat
      · rw [if_pos hc, if_pos hc]
        exact congrArg (y.L i.toNat) (by omega)
      · rw [if_neg hc, if_neg hc]
        have hlt : k % 10 < 10 := Nat.mod_lt _ (by decide)
        generalize k % 10 = m at hlt
        match m, hlt with
        | 0, _ | 1, _ | 2, _ | 3, _ | 4, _ | 5, _ | 6, _ | 7, _ | 8, _ | 9, _ => rfl
    · rw [if_neg hj, if_neg hj]
  · have hp := rcod_po h4
    unfold RMem.stC RMem.stM
    rw [hb, hp]
    exact AtsEq.refl _

noncomputable def F2_rstore (l : List At) : Tr (List At) := .br 0 (pdec (RMem.Ok 900000 (mmr l 3))) (.ok (.i ((mmr l 3).stC (aI l 0) (aI l 1)) :: ((mmr l 3).stM (aI l 0) (aI l 1) (aI l 2)).ats)) .no
theorem s2_rstore : SpecF Try.prog 38 (.eff (locF ish_rstore osh_rstore F2_rstore)) :=
  spec_loc (sy := y_rstore) (fuel := 100) (Lp := noLoops) o_rload mixed ⟨Try.func38, by kernel_rfl, by kernel_rfl⟩ ish_rstore osh_rstore (noLoops_ok _) (hT_of e_rstore fun l r h => by
    obtain ⟨h1, h⟩ := guard_val h
    have := val_ok h
    subst this
    exact t_rstore (mmr l 3) _ _ _ (of_pdec h1))

theorem t_rflush (y : RMem) (c i : Int) (h : y.Ok 900000) : (T_rflush c i y.off y.left y.count y.n y.S y.k y.G y.L).sat fun r => AtsEq r (.i (y.flC c i) :: (y.flM c i).ats) := by
  have bad : (corR c || !y.is i) = true → AtsEq [.i 1, .b y.off, .i y.left, .i y.count, .r y.n y.S, .q y.k y.G 0 10 y.L] (.i (y.flC c i) :: (y.flM c i).ats) := fun h => by
    unfold RMem.flC RMem.flM; rw [h]; exact AtsEq.refl _
  unfold T_rflush
  refine brD (fun h2 => Tr.sat_ok.2 (bad (by unfold corR; rw [decide_eq_true h2]; rfl))) fun h2 => brD (fun h3 => Tr.sat_ok.2 (bad (by unfold corR; rw [decide_eq_true h3]; simp))) fun h3 => brN (fun h1 => Tr.sat_ok.2 (bad (by rw [show y.is i = false from h1]; simp))) (fun h1 => ?_)
  have hb : (corR c || !y.is i) = false := by unfold corR; rw [show y.is i = true from h1, decide_eq_false h2, decide_eq_false h3]; rfl
  obtain ⟨g0, g1⟩ := ris_yes (y := y) h1
  have hk := h.2.2.1.1
  obtain ⟨⟨o1, o2, _⟩, _⟩ := h.2.2.2 i.toNat (by omega)
  refine brT (pdec_yes (rstOk h)) (brQ (fun h4 => brT (pdec_yes ⟨by omega, by omega, by omega, o1, o2⟩) (Tr.sat_ok.2 ?_)) (fun h4 => Tr.sat_ok.2 ?_))
  · have hp := rcod_no h4
    unfold RMem.flC RMem.flM
    rw [hb, hp, Int.sub_zero, rflF_all]
    exact AtsEq.refl _
  · have hp := rcod_po h4
    unfold RMem.flC RMem.flM
    rw [hb, hp]
    exact AtsEq.refl _

noncomputable def F2_rflush (l : List At) : Tr (List At) := .br 0 (pdec (RMem.Ok 900000 (mmr l 2))) (.ok (.i ((mmr l 2).flC (aI l 0) (aI l 1)) :: ((mmr l 2).flM (aI l 0) (aI l 1)).ats)) .no
theorem s2_rflush : SpecF Try.prog 39 (.eff (locF ish_rflush osh_rflush F2_rflush)) :=
  spec_loc (sy := y_rflush) (fuel := 100) (Lp := Lp_rflush_6) o_RS2 mixed ⟨Try.func39, by kernel_rfl, by kernel_rfl⟩ ish_rflush osh_rflush lk_rflush_6 (hT_of e_rflush fun l r h => by
    obtain ⟨h1, h⟩ := guard_val h
    have := val_ok h
    subst this
    exact t_rflush (mmr l 2) _ _ (of_pdec h1))

theorem t_rfence (y : RMem) (c : Int) (h : y.Ok 900000) : (T_rfence c y.off y.left y.count y.n y.S y.k y.G y.L).sat fun r => AtsEq r (.i (y.feC c) :: (y.feM c).ats) := by
  have bad : corR c = true → AtsEq [.i 1, .b y.off, .i y.left, .i y.count, .r y.n y.S, .q y.k y.G 0 10 y.L] (.i (y.feC c) :: (y.feM c).ats) := fun h => by
    unfold RMem.feC RMem.feM; rw [h]; exact AtsEq.refl _
  unfold T_rfence
  refine brD (fun h2 => Tr.sat_ok.2 (bad (by unfold corR; rw [decide_eq_true h2]; rfl))) fun h2 => brD (fun h3 => Tr.sat_ok.2 (bad (by unfold corR; rw [decide_eq_true h3]; simp))) fun h3 => ?_
  have hb : corR c = false := by unfold corR; rw [decide_eq_false h2, decide_eq_false h3]; rfl
  have hk := h.2.2.1
  refine brT (pdec_yes (rstOk h)) (brNE (fun h4 => Tr.sat_ok.2 ?_) (fun h4 => brT (pdec_yes ⟨by omega, ⟨by omega, by omega⟩, hk, fun i _ hi => (h.2.2.2 i hi).1⟩) (Tr.sat_ok.2 ?_)))
  · have hp := rcod_po h4
    unfold RMem.feC RMem.feM
    rw [hb, hp]
    exact AtsEq.refl _
  · have hp := rcod_no h4
    unfold RMem.feC RMem.feM
    rw [hb, hp]
    exact atsEq_cons (by show At.i 0 = At.i y.cod; rw [rpo_cod hp]) (AtsEq.refl _)

noncomputable def F2_rfence (l : List At) : Tr (List At) := .br 0 (pdec (RMem.Ok 900000 (mmr l 1))) (.ok (.i ((mmr l 1).feC (aI l 0)) :: ((mmr l 1).feM (aI l 0)).ats)) .no
theorem s2_rfence : SpecF Try.prog 40 (.eff (locF ish_rfence osh_rfence F2_rfence)) :=
  spec_loc (sy := y_rfence) (fuel := 100) (Lp := Lp_rfence_7) o_RS2 mixed ⟨Try.func40, by kernel_rfl, by kernel_rfl⟩ ish_rfence osh_rfence lk_rfence_7 (hT_of e_rfence fun l r h => by
    obtain ⟨h1, h⟩ := guard_val h
    have := val_ok h
    subst this
    exact t_rfence (mmr l 1) _ (of_pdec h1))

theorem t_revict (y : RMem) (i x : Int) (h : y.Ok 900000) : (T_revict i x y.off y.left y.count y.n y.S y.k y.G y.L).sat fun r => AtsEq r (.i (y.evC i x) :: (y.evM i x).ats) := by
  have bad : y.ebad i x = true → AtsEq [.i 1, .b y.off, .i y.left, .i y.count, .r y.n y.S, .q y.k y.G 0 10 y.L] (.i (y.evC i x) :: (y.evM i x).ats) := fun h => by
    unfold RMem.evC RMem.evM; rw [h]; exact AtsEq.refl _
  unfold T_revict 
  refine brN (fun h1 => Tr.sat_ok.2 (bad (by unfold RMem.ebad; rw [show y.is i = false from h1]; rfl))) (fun h1 => brD (fun h2 => Tr.sat_ok.2 (bad (by unfold RMem.ebad; rw [decide_eq_true h2]; simp))) fun h2 => ?_)
  have hb : y.ebad i x = false := by unfold RMem.ebad; rw [show y.is i = true from h1, decide_eq_false h2]; rfl
  obtain ⟨⟨g0, g1⟩, g2⟩ := rebad_no hb
  have hk := h.2.2.1.1
  obtain ⟨⟨o1, o2, o3⟩, _⟩ := h.2.2.2 i.toNat (by omega)
  rw [Int.toNat_of_nonneg o1]
  unfold RMem.evC RMem.evM
  rw [hb]
  refine brC (fun hf => Tr.sat_ok.2 ?_) (fun hf => brT (by simp [within]; omega) (brT (pdec_yes (rhasOk h ⟨g0, g1⟩ ?_)) (Tr.sat_ok.2 ?_)))
  · rw [hf]
    refine atsEq_cons (AtEq.refl _) ?_
    show AtsEq _ [.b y.off, .i y.left, .i y.count, .r y.n y.S, .q y.k y.G 0 10 y.L]
    rw [hf]
    exact AtsEq.refl _
  · split <;> omega
  · rw [show (bif y.off then (4 : Int) else 0) = 0 by rw [hf]; rfl, show (bif y.off then y else y.suM i (revK (y.G i.toNat 0) x)) = y.suM i (revK (y.G i.toNat 0) x) by rw [hf]; rfl]
    exact AtsEq.refl _

noncomputable def F2_revict (l : List At) : Tr (List At) := .br 0 (pdec (RMem.Ok 900000 (mmr l 2))) (.ok (.i ((mmr l 2).evC (aI l 0) (aI l 1)) :: ((mmr l 2).evM (aI l 0) (aI l 1)).ats)) .no
theorem s2_revict : SpecF Try.prog 41 (.eff (locF ish_revict osh_revict F2_revict)) :=
  spec_loc (sy := y_revict) (fuel := 100) (Lp := noLoops) o_rfuse mixed ⟨Try.func41, by kernel_rfl, by kernel_rfl⟩ ish_revict osh_revict (noLoops_ok _) (hT_of e_revict fun l r h => by
    obtain ⟨h1, h⟩ := guard_val h
    have := val_ok h
    subst this
    exact t_revict (mmr l 2) _ _ (of_pdec h1))

noncomputable def F2_rfuse (l : List At) : Tr (List At) := .ok ((mmr l 1).fuM (aI l 0)).ats
theorem s2_rfuse : SpecF Try.prog 42 (.eff (locF ish_rfuse osh_rfuse F2_rfuse)) :=
  spec_loc (sy := y_rfuse) (fuel := 100) (Lp := noLoops) o_rstore mixed ⟨Try.func42, by kernel_rfl, by kernel_rfl⟩ ish_rfuse osh_rfuse (noLoops_ok _) (hT_of e_rfuse fun l r h => by
    have := val_ok h
    subst this
    exact Tr.sat_ok.2 (AtsEq.refl _))

def mmK (l : List At) : RMem := ⟨aRn l 4, aRg l 4, aRn l 5, aRg l 5, aMh l 5 0 10, aB l 0, aI l 1, aI l 2⟩
noncomputable def F2_rcrash (l : List At) : Tr (List At) := .br 0 (pdec (RMem.Ok 900000 (mmK l))) (.br 0 (pdec (KeepOk (fun j => aRg l 3 j 0) (aRn l 3))) (.ok ((mmK l).crM (fun j => aRg l 3 j 0) (aRn l 3)).ats) .no) .no
theorem t_rcrash (y : RMem) (n : Nat) (g : Nat → Nat → Int) (h : y.Ok 900000) (hq : KeepOk (fun j => g j 0) n) : (T_rcrash y.off y.left y.count n g y.n y.S y.k y.G y.L).sat fun r => AtsEq r (y.crM (fun j => g j 0) n).ats := by
  have e : (fun j => g (0 + j) 0) = fun j => g j 0 := by funext j; rw [Nat.zero_add]
  unfold T_rcrash
  rw [e]
  exact brT (pdec_yes ⟨⟨by decide, by decide⟩, Int.natCast_nonneg _, h.2.2.1, fun i _ hi => (h.2.2.2 i hi).1, hq⟩) (Tr.sat_ok.2 (AtsEq.refl _))
theorem s2_rcrash : SpecF Try.prog 43 (.eff (locF ish_rcrash osh_rcrash F2_rcrash)) :=
  spec_loc (sy := y_rcrash) (fuel := 100) (Lp := Lp_rcrash_2) o_RS2 mixed ⟨Try.func43, by kernel_rfl, by kernel_rfl⟩ ish_rcrash osh_rcrash lk_rcrash_2 (hT_of e_rcrash fun l r h => by
    obtain ⟨h1, h⟩ := guard_val h
    obtain ⟨h2, h⟩ := guard_val h
    have := val_ok h
    subst this
    exact t_rcrash (mmK l) _ _ (of_pdec h1) (of_pdec h2))

noncomputable def F2_rload (l : List At) : Tr (List At) := .br 0 (pdec (RMem.Ok 900000 (mmr l 1))) (.ok [.i ((mmr l 1).ldW (aI l 0) 0), .i ((mmr l 1).ldW (aI l 0) 1), .i ((mmr l 1).ldW (aI l 0) 2), .i ((mmr l 1).ldW (aI l 0) 3), .i ((mmr l 1).ldW (aI l 0) 4), .i ((mmr l 1).ldW (aI l 0) 5), .i ((mmr l 1).ldW (aI l 0) 6), .i ((mmr l 1).ldW (aI l 0) 7), .i ((mmr l 1).ldC (aI l 0))]) .no
theorem t_rload (y : RMem) (i : Int) (h : y.Ok 900000) : (T_rload i y.off y.left y.count y.n y.S y.k y.G y.L).sat fun r => AtsEq r [.i (y.ldW i 0), .i (y.ldW i 1), .i (y.ldW i 2), .i (y.ldW i 3), .i (y.ldW i 4), .i (y.ldW i 5), .i (y.ldW i 6), .i (y.ldW i 7), .i (y.ldC i)] := by
  have zero : y.ldC i ≠ 0 → AtsEq [.i 0, .i 0, .i 0, .i 0, .i 0, .i 0, .i 0, .i 0, .i (y.ldC i)] [.i (y.ldW i 0), .i (y.ldW i 1), .i (y.ldW i 2), .i (y.ldW i 3), .i (y.ldW i 4), .i (y.ldW i 5), .i (y.ldW i 6), .i (y.ldW i 7), .i (y.ldC i)] := fun h => by
    have e : ∀ c, y.ldW i c = 0 := fun c => by unfold RMem.ldW; rw [show (y.ldC i == 0) = false by simpa using h]; rfl
    simp only [e]; exact AtsEq.refl _
  unfold T_rload
  refine brN (fun h1 => Tr.sat_ok.2 ?_) (fun h1 => ?_)
  · have e : y.ldC i = 1 := by unfold RMem.ldC; rw [show y.is i = false from h1]; rfl
    have := zero (by rw [e]; decide)
    rw [e] at this ⊢
    exact this
  · have e : y.ldC i = bif y.off then 4 else 0 := by unfold RMem.ldC; rw [show y.is i = true from h1]; rfl
    refine brC (fun hf => Tr.sat_ok.2 ?_) (fun hf => ?_)
    · rw [hf] at e
      have := zero (by rw [e]; decide)
      rw [e] at this ⊢
      exact this
    · rw [hf] at e
      have e' : y.ldC i = 0 := e
      obtain ⟨g0, g1⟩ := ris_yes (y := y) h1
      have hk := h.2.2.1.1
      obtain ⟨⟨o1, o2, o3⟩, _⟩ := h.2.2.2 i.toNat (by omega)
      refine brT (by simp [within]; omega) (brT (pdec_yes (rhasOk h ⟨g0, g1⟩ (by omega))) (Tr.sat_ok.2 ?_))
      have ew : ∀ c, y.ldW i c = rsS (y.S i.toNat) (y.L i.toNat) (y.G i.toNat 0).toNat c := fun c => by unfold RMem.ldW; rw [e']; rfl
      simp only [ew, e', Int.toNat_natCast]
      exact AtsEq.refl _
theorem s2_rload : SpecF Try.prog 44 (.read (locR ish_rload osh_rload F2_rload)) :=
  spec_read (sy := y_rload) (fuel := 100) (Lp := noLoops) o_RS2 mixed ⟨Try.func44, by kernel_rfl, by kernel_rfl⟩ ish_rload osh_rload (by kernel_rfl) (noLoops_ok _) (hT_of e_rload fun l r h => by
    obtain ⟨h1, h⟩ := guard_val h
    have := val_ok h
    subst this
    exact t_rload (mmr l 1) _ (of_pdec h1))

noncomputable def F2_rnew (l : List At) : Tr (Nat × List At) := .br 0 (decide (aI l 0 < 64 ∨ aI l 0 > 1024)) (.ok (1, [.i 1])) (.ok (0, .i 0 :: (rnewR (aI l 0).toNat fun _ _ => 0).ats))
theorem s2_rnew : SpecF Try.prog 27 (.eff (locFs ish_rnew oshs_rnew F2_rnew)) :=
  spec_locs (sy := y_rnew) (fuel := 100) (Lp := noLoops) o_rof mixed ⟨Try.func27, by kernel_rfl, by kernel_rfl⟩ ish_rnew oshs_rnew (noLoops_ok _) (hT_ofS e_rnew fun l r h => by
    refine ⟨r, ?_, rfl, AtsEq.refl _⟩
    unfold F2_rnew at h
    rw [← h]
    unfold TL_rnew T_rnew
    generalize aI l 0 = x0
    by_cases h1 : x0 < 64
    · rw [show decide (x0 < 64) = true by simpa using h1, show decide (x0 < 64 ∨ x0 > 1024) = true by simp [h1]]; rfl
    · by_cases h2 : x0 > 1024
      · rw [show decide (x0 < 64) = false by simpa using h1, show decide (x0 > 1024) = true by simpa using h2, show decide (x0 < 64 ∨ x0 > 1024) = true by simp [h2]]; rfl
      · have e : ((x0.toNat : Nat) : Int) = x0 := by omega
        simp only [e]
        rw [show decide (x0 < 64) = false by simpa using h1, show decide (x0 > 1024) = false by simpa using h2, show decide (x0 < 64 ∨ x0 > 1024) = false by simp [h1, h2], show (decide (0 ≤ x0) && x0 == x0 && decide (x0 ≤ 1073741824)) = true by simp; omega, show decide (x0.toNat ≤ 1073741824) = true by simp; omega]; rfl)

noncomputable def Γ_R2 : Specs := upd (upd (upd (upd (upd (upd (upd (upd Γ_RS2 27 (.eff (locFs ish_rnew oshs_rnew F2_rnew))) 38 (.eff (locF ish_rstore osh_rstore F2_rstore))) 39 (.eff (locF ish_rflush osh_rflush F2_rflush))) 40 (.eff (locF ish_rfence osh_rfence F2_rfence)))
  41 (.eff (locF ish_revict osh_revict F2_revict))) 42 (.eff (locF ish_rfuse osh_rfuse F2_rfuse))) 43 (.eff (locF ish_rcrash osh_rcrash F2_rcrash))) 44 (.read (locR ish_rload osh_rload F2_rload))
theorem o_R2 : SpecOK Try.prog Γ_R2 := SpecOK.upd (SpecOK.upd (SpecOK.upd (SpecOK.upd (SpecOK.upd (SpecOK.upd (SpecOK.upd (SpecOK.upd o_RS2 s2_rnew) s2_rstore) s2_rflush) s2_rfence) s2_revict) s2_rfuse) s2_rcrash) s2_rload
end Go.Proofs.Ythgagehgiooklaa.G
end

/-
  A copy of a memory's lines: the rows are new, their stores are not.
-/
section
namespace Go.Proofs.Ythgagehgiooklaa.G
open Go Go.AM Go.Proofs

def LK25 : List SK := [.n .u64, .n .u64, .n .u64, .n .u64, .n .u64, .n .u64, .n .u64, .n .u64, .n .u64, .n .u64, .n .u64, .n .u64, .n .u64, .n .u64, .n .u64, .n .u64, .n .i64, .n .i64, .n .i64, .n .i64, .n .i64, .n .i64, .n .i64, .n .i64, .n .i64]
def ish_cln : FSh := ⟨[.v false [.sw 0 25]], [.nrows LK25 16 [.n .i64, .n .u64] 1 false false, .no]⟩
def osh_cln : FSh := ⟨[.v false [.sw 2 25]], [.no, .no, .nrows LK25 16 [.n .i64, .n .u64] 3 true true, .no]⟩
def F_cln (l : List At) : Tr (List At) := .br 0 (decide (0 < aRn l 0 ∧ aRn l 0 ≤ 1073741824)) (.ok [.n 0, .q (aRn l 0) (aRg l 0) 16 2 fun _ _ => 0]) .no
theorem eZ_cln (l : List At) : (call Try.prog Γ_R2 (syOf3 [7] [] []) noLoops 100 Try.f36 [.v (.s (.slz 0 25 0 (aRn l 0)))] (mkH ish_cln l)).bind (leafO 2 osh_cln) =
    .br 7 (decide (aRn l 0 ≤ 1073741824)) (.ok [.n 0, .q (aRn l 0) (fun j c => aRg l 0 (0 + j) c) 16 2 fun _ _ => 0]) .no := by kernel_rfl
theorem s_cln : SpecF Try.prog 36 (.eff (locF ish_cln osh_cln F_cln)) := by
  refine spec_slz (sy := syOf3 [7] [] []) (fuel := 100) (Lp := noLoops) o_R2 mixed ⟨Try.func36, by kernel_rfl, by kernel_rfl⟩ 25 LK25 16 [.n .i64, .n .u64] osh_cln (noLoops_ok _) (fun l r h => ?_) (fun l r h => ?_)
  · obtain ⟨hc, _⟩ := guard_val h
    exact (of_decide_eq_true hc).1
  · obtain ⟨hc, h⟩ := guard_val h
    have hr := val_ok h
    subst hr
    refine ⟨_, by rw [show mkH ⟨[.v false [.sw 0 25]], [.nrows LK25 16 [.n .i64, .n .u64] 1 false false, .no]⟩ l = mkH ish_cln l from rfl, eZ_cln l]; exact br_t (decide_eq_true (of_decide_eq_true hc).2), ?_⟩
    exact atsEq_cons (AtEq.refl _) (atsEq_cons (atEq_qe (by funext j c; rw [Nat.zero_add]) rfl) atsEq_nil)
noncomputable def Γ_cln : Specs := upd Γ_R2 36 (.eff (locF ish_cln osh_cln F_cln))
theorem o_cln : SpecOK Try.prog Γ_cln := SpecOK.upd o_R2 s_cln
end Go.Proofs.Ythgagehgiooklaa.G
end

/-
  What functions of the seat compute, printed by a program from the explorer.
-/
section
namespace Go.Proofs.Ythgagehgiooklaa.G
open Go Go.AM Go.Proofs
/-! ### the loop at 4 of clone -/

noncomputable def lsh_clone_4 : FSh := ⟨[.v false [.p 0 0], .any, .any, .v false [.p 3 0], .any, .any, .any, .any, .any, .any, .any, .any, .any, .any, .any, .any, .v false [.k (.n .i64)], .v false [.k (.n .i64)], .any, .any, .any, .any, .any, .any, .any, .any, .any, .any, .any, .any, .any, .any, .any, .any, .any], [.roc [.sw 1 25, .k .b, .k .b, .k (.n .i64), .k (.n .i64)], .nrows [.n .u64, .n .u64, .n .u64, .n .u64, .n .u64, .n .u64, .n .u64, .n .u64, .n .u64, .n .u64, .n .u64, .n .u64, .n .u64, .n .u64, .n .u64, .n .u64, .n .i64, .n .i64, .n .i64, .n .i64, .n .i64, .n .i64, .n .i64, .n .i64, .n .i64] 16 [.n .i64, .n .u64] 2 false false, .no, .cells [.sw 4 25, .k .b, .k .b, .k (.n .i64), .k (.n .i64)], .nrows [.n .u64, .n .u64, .n .u64, .n .u64, .n .u64, .n .u64, .n .u64, .n .u64, .n .u64, .n .u64, .n .u64, .n .u64, .n .u64, .n .u64, .n .u64, .n .u64, .n .i64, .n .i64, .n .i64, .n .i64, .n .i64, .n .i64, .n .i64, .n .i64, .n .i64] 16 [.n .i64, .n .u64] 5 true true, .no]⟩
noncomputable def xsh_clone_4_0 : FSh := ⟨[.any, .any, .any, .v false [.p 3 0], .any, .any, .any, .any, .any, .any, .any, .any, .any, .any, .any, .any, .any, .any, .any, .any, .any, .any, .any, .any, .any, .any, .any, .any, .any, .any, .any, .any, .any, .any, .any], [.no, .no, .no, .cells [.sw 4 25, .k .b, .k .b, .k (.n .i64), .k (.n .i64)], .nrows [.n .u64, .n .u64, .n .u64, .n .u64, .n .u64, .n .u64, .n .u64, .n .u64, .n .u64, .n .u64, .n .u64, .n .u64, .n .u64, .n .u64, .n .u64, .n .u64, .n .i64, .n .i64, .n .i64, .n .i64, .n .i64, .n .i64, .n .i64, .n .i64, .n .i64] 16 [.n .i64, .n .u64] 5 true true, .no]⟩
noncomputable def xs_clone_4 : Exs := fun e => match e with
  | .normal => some lsh_clone_4
  | .exit n => (match Nat.beq n 0 with | true => some xsh_clone_4_0 | false => none)
  | .ret => none
noncomputable def B_clone_4 (x0 : Int) (x1 : Int) (x2 : Bool) (x3 : Bool) (x4 : Int) (x5 : Int) (n6 : Nat) (g6 : Nat → Nat → Int) (h6 : Nat → Nat → Int) (x7 : Bool) (x8 : Bool) (x9 : Int) (x10 : Int) (x11 : Nat) (n12 : Nat) (g12 : Nat → Nat → Int) (h12 : Nat → Nat → Int) : Tr (Ex × List At) :=
 .br 18 (Decidable.decide (x1 < x0))
 (.br 28 (Go.AM.within x1 n6)
 (.br 0 (Decidable.decide (Int.toNat (g6 (Int.toNat x1) (16 : Nat)) ≤ (1073741824 : Nat)))
 (.br 32 (Go.AM.within x1 n12)
 (.br 0 (Nat.beq (Int.toNat x1) x11)
 (.ok (.normal, [(.i (x0)), (.i (Go.IntKind.wrap Go.IntKind.i64 (x1 + (1 : Int)))), (.b (x2)), (.b (x3)), (.i (x4)), (.i (x5)), (.q (n6) (g6) ((16 : Nat)) ((2 : Nat)) (h6)), (.b (x7)), (.b (x8)), (.i (x9)), (.i (x10)), (.n (x11 + (1 : Nat))), (.q (n12) (Go.AM.updG g12 (Int.toNat x1) (16 : Nat) (↑(Int.toNat (g6 (Int.toNat x1) (16 : Nat))) : Int)) ((16 : Nat)) ((2 : Nat)) (Go.AM.putM h12 (Int.toNat x1) (2 : Nat) fun (j cc : Nat) => h6 (Int.toNat x1) (((0 : Nat) + j) * (2 : Nat) + cc)))]))
 (.no))
 (.no))
 (.no))
 (.no))
 (.ok (.exit 0, [(.b (x7)), (.b (x8)), (.i (x9)), (.i (x10)), (.n (x11)), (.q (n12) (g12) ((16 : Nat)) ((2 : Nat)) (h12))]))
noncomputable def y_clone_4 : Nat → Option Nat := (syOf3 [18, 28, 32] [] [])
noncomputable def BL_clone_4 (l : List At) : Tr (Ex × List At) := B_clone_4 (aI l 0) (aI l 1) (aB l 2) (aB l 3) (aI l 4) (aI l 5) (aRn l 6) (aRg l 6) (aMh l 6 16 2) (aB l 7) (aB l 8) (aI l 9) (aI l 10) (aN l 11) (aRn l 12) (aRg l 12) (aMh l 12 16 2)
theorem eB_clone_4 (l : List At) : (exec Try.prog Γ_cln y_clone_4 noLoops 100 (loopAt Try.f28 4) ⟨mkV lsh_clone_4 l, mkH lsh_clone_4 l⟩).bind (leafL 3 xs_clone_4) = BL_clone_4 l := by kernel_rfl
/- by hand: O_clone_4 (x0 : Int) (x1 : Int) (x2 : Bool) (x3 : Bool) (x4 : Int) (x5 : Int) (n6 : Nat) (g6 : Nat → Nat → Int) (h6 : Nat → Nat → Int) (x7 : Bool) (x8 : Bool) (x9 : Int) (x10 : Int) (x11 : Nat) (n12 : Nat) (g12 : Nat → Nat → Int) (h12 : Nat → Nat → Int) : Tr (Ex × List At); OL_clone_4 (l) := O_clone_4 (aI l 0) (aI l 1) (aB l 2) (aB l 3) (aI l 4) (aI l 5) (aRn l 6) (aRg l 6) (aMh l 6 16 2) (aB l 7) (aB l 8) (aI l 9) (aI l 10) (aN l 11) (aRn l 12) (aRg l 12) (aMh l 12 16 2); μ_clone_4 : List At → Nat; rd_clone_4 : ∀ l r, (OL_clone_4 l).val = some r → RoundA BL_clone_4 OL_clone_4 μ_clone_4 l r -/

end Go.Proofs.Ythgagehgiooklaa.G
end

/-
  The loop of Clone: each line's stores are copied.
-/
section
namespace Go.Proofs.Ythgagehgiooklaa.G
open Go Go.AM Go.Proofs

def clH (n : Nat) (h h' : Nat → Nat → Int) (a : Nat) : Nat → Nat → Int := fun i => if a ≤ i ∧ i < n then h i else h' i
theorem clH_step {n : Nat} {h h' : Nat → Nat → Int} {a : Nat} (ha : a < n) : clH n h (updR h' a (h a)) (a + 1) = clH n h h' a := by
  funext i
  unfold clH
  by_cases hi : i = a
  · subst hi
    rw [if_neg (by omega), updR_self, if_pos ⟨Nat.le_refl _, ha⟩]
  · rw [updR_ne hi]
    by_cases hc : a ≤ i ∧ i < n
    · rw [if_pos (by omega), if_pos hc]
    · rw [if_neg (by omega), if_neg hc]
theorem clH_end {n : Nat} {h h' : Nat → Nat → Int} {a : Nat} (ha : n ≤ a) : clH n h h' a = h' := funext fun i => if_neg (by omega)

def preK (x0 x1 : Int) (n6 : Nat) (g6 : Nat → Nat → Int) (x11 n12 : Nat) (g12 : Nat → Nat → Int) : Prop :=
  (0 ≤ x1 ∧ x1 ≤ x0) ∧ (x0 = n6 ∧ n12 = n6 ∧ n6 ≤ 1073741824) ∧ x11 = x1.toNat ∧ g12 = g6 ∧ ∀ i, i < n6 → 0 ≤ g6 i 16 ∧ g6 i 16 ≤ 1073741824

noncomputable def O_clone_4 (x0 x1 : Int) (n6 : Nat) (g6 h6 : Nat → Nat → Int) (x7 x8 : Bool) (x9 x10 : Int) (x11 n12 : Nat) (g12 h12 : Nat → Nat → Int) : Tr (Ex × List At) :=
  .br 0 (pdec (preK x0 x1 n6 g6 x11 n12 g12)) (.ok (.exit 0, [.b x7, .b x8, .i x9, .i x10, .n n6, .q n6 g6 16 2 (clH n6 h6 h12 x1.toNat)])) .no
noncomputable def OL_clone_4 (l : List At) : Tr (Ex × List At) := O_clone_4 (aI l 0) (aI l 1) (aRn l 6) (aRg l 6) (aMh l 6 16 2) (aB l 7) (aB l 8) (aI l 9) (aI l 10) (aN l 11) (aRn l 12) (aRg l 12) (aMh l 12 16 2)
def μ_clone_4 (l : List At) : Nat := (aI l 0 - aI l 1).toNat

theorem rd_clone_4 : ∀ l r, (OL_clone_4 l).val = some r → RoundS BL_clone_4 OL_clone_4 μ_clone_4 l r := by
  intro l r h
  obtain ⟨hc, h⟩ := guard_val h
  obtain ⟨⟨c0, c1⟩, ⟨c2, c3, c4⟩, c5, c6, c7⟩ := of_pdec hc
  unfold RoundS BL_clone_4 B_clone_4
  generalize hx0 : aI l 0 = x0 at *
  generalize hx1 : aI l 1 = x1 at *
  generalize hn : aRn l 6 = n at *
  generalize hg : aRg l 6 = g at *
  generalize hh : aMh l 6 16 2 = hm at *
  generalize hx11 : aN l 11 = x11 at *
  generalize hn12 : aRn l 12 = n12 at *
  generalize hg12 : aRg l 12 = g12 at *
  generalize hh12 : aMh l 12 16 2 = h12 at *
  subst c6
  subst c5
  subst c3
  refine brD (fun h1 => ?_) (fun h1 => ?_)
  · have hw : IntKind.i64.wrap (x1 + 1) = x1 + 1 := wrap_i64 (by omega) (by omega)
    have e2 : (x1 + 1).toNat = x1.toNat + 1 := by omega
    have hμ : (x0 - (x1 + 1)).toNat < μ_clone_4 l := by unfold μ_clone_4; rw [hx0, hx1]; omega
    obtain ⟨o1, o2⟩ := c7 x1.toNat (by omega)
    refine brT (by simp [within]; omega) (brT (by simp; omega) (brT (by simp [within]; omega) (brT (by simp) ?_)))
    have eg : updG g12 x1.toNat 16 ((g12 x1.toNat 16).toNat : Int) = g12 := by
      rw [Int.toNat_of_nonneg o1]
      funext i c
      unfold updG
      split
      · rename_i hc; subst hc
        split
        · rename_i hi; rw [hi]
        · rfl
      · rfl
    have eh : putM h12 x1.toNat 2 (fun j cc => hm x1.toNat ((0 + j) * 2 + cc)) = updR h12 x1.toNat (hm x1.toNat) := by
      funext i k
      unfold putM updR
      by_cases hi : i = x1.toNat
      · rw [if_pos hi, if_pos hi]
        exact congrArg (hm x1.toNat) (by omega)
      · rw [if_neg hi, if_neg hi]
    rw [hw, eg, eh]
    have key := clH_step (n := n12) (h := hm) (h' := h12) (a := x1.toNat) (by omega)
    rw [← e2] at key
    rw [← key] at h
    have hq : preK x0 (x1 + 1) n12 g12 (x1.toNat + 1) n12 g12 := ⟨⟨by omega, by omega⟩, ⟨c2, rfl, c4⟩, by omega, rfl, c7⟩
    exact on_ _ r (AtsEq.refl _) hμ ((br_t (g := 0) (pdec_yes hq)).trans h) rfl (AtsEq.refl _)
  · have e : x1.toNat = n12 := by omega
    rw [clH_end (by omega)] at h
    have hr := val_ok h
    subst hr
    refine out_ (by simp) rfl ?_
    rw [e]
    exact AtsEq.refl _
end Go.Proofs.Ythgagehgiooklaa.G
end

/-
  What functions of the seat compute, printed by a program from the explorer.
-/
section
namespace Go.Proofs.Ythgagehgiooklaa.G
open Go Go.AM Go.Proofs
theorem f_clone_4 : LoopF Try.prog 3 (loopAt Try.f28 4) (loopFn 3 lsh_clone_4 xs_clone_4 OL_clone_4) :=
  loop_sat (sy := y_clone_4) (fuel := 100) (Lp := noLoops) o_cln mixed (loopsOK_at (noLoops_ok _) 4) rfl eB_clone_4 rd_clone_4
noncomputable def Lp_clone_4 : Loops := Loops.set noLoops 4 (loopFn 3 lsh_clone_4 xs_clone_4 OL_clone_4)
theorem lk_clone_4 : LoopsFn Try.prog 3 Lp_clone_4 Try.f28 := loopsFn_set (noLoops_ok _) (by kernel_rfl) f_clone_4

/-! ### clone -/

noncomputable def ish_clone : FSh := ⟨[.v false [.p 0 0]], [.roc [.sw 1 25, .k .b, .k .b, .k (.n .i64), .k (.n .i64)], .nrows [.n .u64, .n .u64, .n .u64, .n .u64, .n .u64, .n .u64, .n .u64, .n .u64, .n .u64, .n .u64, .n .u64, .n .u64, .n .u64, .n .u64, .n .u64, .n .u64, .n .i64, .n .i64, .n .i64, .n .i64, .n .i64, .n .i64, .n .i64, .n .i64, .n .i64] 16 [.n .i64, .n .u64] 2 false false, .no]⟩
noncomputable def osh_clone : FSh := ⟨[.v false [.p 3 0]], [.no, .no, .no, .cells [.sw 4 25, .k .b, .k .b, .k (.n .i64), .k (.n .i64)], .nrows [.n .u64, .n .u64, .n .u64, .n .u64, .n .u64, .n .u64, .n .u64, .n .u64, .n .u64, .n .u64, .n .u64, .n .u64, .n .u64, .n .u64, .n .u64, .n .u64, .n .i64, .n .i64, .n .i64, .n .i64, .n .i64, .n .i64, .n .i64, .n .i64, .n .i64] 16 [.n .i64, .n .u64] 5 false true, .no]⟩
noncomputable def clone_c1 (n4 : Nat) : Bool := Decidable.decide ((0 : Nat) < n4 ∧ n4 ≤ (1073741824 : Nat))
noncomputable def T_clone (x0 : Bool) (x1 : Bool) (x2 : Int) (x3 : Int) (n4 : Nat) (g4 : Nat → Nat → Int) (h4 : Nat → Nat → Int) : Tr (List At) :=
 .br 0 ((clone_c1 n4))
 (.br 0 (Go.Proofs.Ythgagehgiooklaa.G.pdec (Go.Proofs.Ythgagehgiooklaa.G.preK (↑n4 : Int) (0 : Int) n4 g4 (0 : Nat) n4 g4))
 (.br 0 (Nat.ble n4 n4)
 (.ok [(.b (x0)), (.b (x1)), (.i (x2)), (.i (x3)), (.q (n4) (g4) ((16 : Nat)) ((2 : Nat)) (Go.Proofs.Ythgagehgiooklaa.G.clH n4 h4 (fun (_ _ : Nat) => (0 : Int)) (0 : Nat)))])
 (.no))
 (.no))
 (.no)
noncomputable def y_clone : Nat → Option Nat := (syOf3 [] [] [])
noncomputable def TL_clone (l : List At) : Tr (List At) := T_clone (aB l 0) (aB l 1) (aI l 2) (aI l 3) (aRn l 4) (aRg l 4) (aMh l 4 16 2)
theorem e_clone (l : List At) : (call Try.prog Γ_cln y_clone Lp_clone_4 100 Try.f28 (mkV ish_clone l) (mkH ish_clone l)).bind (leafO 3 osh_clone) = TL_clone l := by kernel_rfl
noncomputable def F_clone : List At → Tr (List At) := TL_clone
theorem s_clone : SpecF Try.prog 28 (.eff (locF ish_clone osh_clone F_clone)) :=
  spec_loc (sy := y_clone) (fuel := 100) (Lp := Lp_clone_4) o_cln mixed ⟨Try.func28, by kernel_rfl, by kernel_rfl⟩ ish_clone osh_clone lk_clone_4 (hT_ways e_clone)
noncomputable def Γ_clone : Specs := upd Γ_cln 28 (.eff (locF ish_clone osh_clone F_clone))
theorem o_clone : SpecOK Try.prog Γ_clone := SpecOK.upd o_cln s_clone

end Go.Proofs.Ythgagehgiooklaa.G
end

/-
  Clone, in plain words: a memory as the first one.
-/
section
namespace Go.Proofs.Ythgagehgiooklaa.G
open Go Go.AM Go.Proofs

noncomputable def F2_clone (l : List At) : Tr (List At) := .br 0 (pdec (Mem.Ok 1000000 (mm l 0) ∧ 0 < (mm l 0).n)) (.ok (mm l 0).ats) .no
theorem t_clone (m : Mem) (h : m.Ok 1000000) (hn : 0 < m.n) : (T_clone m.off m.burns m.left m.steps m.n m.g m.h).sat fun r => AtsEq r m.ats := by
  have hr : ∀ i, i < m.n → 0 ≤ m.g i 16 ∧ m.g i 16 ≤ 1073741824 := fun i hi => by
    obtain ⟨⟨h1, h2, _⟩, _⟩ := h.2.2.2.2 i hi
    exact ⟨h1, by omega⟩
  have hb := h.2.2.2.1
  unfold T_clone
  refine brT (decide_eq_true ⟨hn, hb⟩) (brT (pdec_yes ⟨⟨Int.le_refl _, Int.natCast_nonneg _⟩, ⟨rfl, rfl, hb⟩, rfl, rfl, hr⟩) ?_)
  have e : clH m.n m.h (fun _ _ => 0) (0 : Int).toNat = fun i => if i < m.n then m.h i else fun _ => 0 := by
    funext i
    unfold clH
    by_cases hi : i < m.n
    · rw [if_pos ⟨Nat.zero_le _, hi⟩, if_pos hi]
    · rw [if_neg (fun hh => hi hh.2), if_neg hi]
  refine brT (by simp) (Tr.sat_ok.2 ?_)
  refine atsEq_cons (AtEq.refl _) (atsEq_cons (AtEq.refl _) (atsEq_cons (AtEq.refl _) (atsEq_cons (AtEq.refl _) (atsEq_cons (atEq_q rfl (fun _ _ _ => rfl) fun i hi k _ => ?_) atsEq_nil))))
  show clH m.n m.h (fun _ _ => 0) 0 i k = m.h i k
  unfold clH
  rw [if_pos ⟨Nat.zero_le _, hi⟩]
theorem s2_clone : SpecF Try.prog 28 (.eff (locF ish_clone osh_clone F2_clone)) :=
  spec_loc (sy := y_clone) (fuel := 100) (Lp := Lp_clone_4) o_cln mixed ⟨Try.func28, by kernel_rfl, by kernel_rfl⟩ ish_clone osh_clone lk_clone_4 (hT_of e_clone fun l r h => by
    obtain ⟨h1, h⟩ := guard_val h
    have := val_ok h
    subst this
    exact t_clone (mm l 0) (of_pdec h1).1 (of_pdec h1).2)
noncomputable def Γ_K4 : Specs := upd Γ_cln 28 (.eff (locF ish_clone osh_clone F2_clone))
theorem o_K4 : SpecOK Try.prog Γ_K4 := SpecOK.upd o_cln s2_clone
end Go.Proofs.Ythgagehgiooklaa.G
end

/-
  What functions of the seat compute, printed by a program from the explorer.
-/
section
namespace Go.Proofs.Ythgagehgiooklaa.G
open Go Go.AM Go.Proofs
/-! ### does -/

noncomputable def ish_does : FSh := ⟨[.v false [.p 0 0], .v false [.p 1 0], .v true [.k (.n .i64), .k (.n .i64), .k (.n .i64), .k (.n .i64), .k (.n .u64), .vw 2 1]], [.cells [.sw 3 25, .k .b, .k .b, .k (.n .i64), .k (.n .i64)], .cells [.sw 4 8, .sw 5 1, .k .b, .k (.n .i64), .k (.n .i64)], .rows [.n .i64] false, .nrows [.n .u64, .n .u64, .n .u64, .n .u64, .n .u64, .n .u64, .n .u64, .n .u64, .n .u64, .n .u64, .n .u64, .n .u64, .n .u64, .n .u64, .n .u64, .n .u64, .n .i64, .n .i64, .n .i64, .n .i64, .n .i64, .n .i64, .n .i64, .n .i64, .n .i64] 16 [.n .i64, .n .u64] 6 false true, .rows [.n .u64, .n .u64, .n .u64, .n .u64, .n .u64, .n .u64, .n .u64, .n .u64] true, .nrows [.n .i64] 0 [.n .i64, .n .u64, .b, .b, .b, .b, .b, .b, .b, .b] 7 false true, .no, .no]⟩
noncomputable def osh_does : FSh := ⟨[.v false [.k .b]], [.cells [.sw 3 25, .k .b, .k .b, .k (.n .i64), .k (.n .i64)], .cells [.sw 4 8, .sw 5 1, .k .b, .k (.n .i64), .k (.n .i64)], .no, .nrows [.n .u64, .n .u64, .n .u64, .n .u64, .n .u64, .n .u64, .n .u64, .n .u64, .n .u64, .n .u64, .n .u64, .n .u64, .n .u64, .n .u64, .n .u64, .n .u64, .n .i64, .n .i64, .n .i64, .n .i64, .n .i64, .n .i64, .n .i64, .n .i64, .n .i64] 16 [.n .i64, .n .u64] 8 false true, .rows [.n .u64, .n .u64, .n .u64, .n .u64, .n .u64, .n .u64, .n .u64, .n .u64] true, .nrows [.n .i64] 0 [.n .i64, .n .u64, .b, .b, .b, .b, .b, .b, .b, .b] 9 false true, .no, .no, .no, .no]⟩
noncomputable def does_c0 (x2 : Int) (x3 : Int) (x5 : Bool) (x6 : Bool) (x7 : Int) (x8 : Int) (x9 : Bool) (x10 : Int) (x11 : Int) (n13 : Nat) (g13 : Nat → Nat → Int) (h13 : Nat → Nat → Int) (n14 : Nat) (g14 : Nat → Nat → Int) (n15 : Nat) (g15 : Nat → Nat → Int) (h15 : Nat → Nat → Int) : Bool := Go.Proofs.Ythgagehgiooklaa.G.Mem.ldW (Go.Proofs.Ythgagehgiooklaa.G.Mem.fuM { n := n13, g := g13, h := h13, off := x5, burns := x6, left := x7, steps := x8 } x3) x2 (0 : Nat) == Go.Proofs.Ythgagehgiooklaa.G.RMem.ldW (Go.Proofs.Ythgagehgiooklaa.G.RMem.fuM { n := n14, S := g14, k := n15, G := g15, L := h15, off := x9, left := x10, count := x11 } x3) x2 (0 : Nat) && (Go.Proofs.Ythgagehgiooklaa.G.Mem.ldW (Go.Proofs.Ythgagehgiooklaa.G.Mem.fuM { n := n13, g := g13, h := h13, off := x5, burns := x6, left := x7, steps := x8 } x3) x2 (1 : Nat) == Go.Proofs.Ythgagehgiooklaa.G.RMem.ldW (Go.Proofs.Ythgagehgiooklaa.G.RMem.fuM { n := n14, S := g14, k := n15, G := g15, L := h15, off := x9, left := x10, count := x11 } x3) x2 (1 : Nat) && (Go.Proofs.Ythgagehgiooklaa.G.Mem.ldW (Go.Proofs.Ythgagehgiooklaa.G.Mem.fuM { n := n13, g := g13, h := h13, off := x5, burns := x6, left := x7, steps := x8 } x3) x2 (2 : Nat) == Go.Proofs.Ythgagehgiooklaa.G.RMem.ldW (Go.Proofs.Ythgagehgiooklaa.G.RMem.fuM { n := n14, S := g14, k := n15, G := g15, L := h15, off := x9, left := x10, count := x11 } x3) x2 (2 : Nat) && (Go.Proofs.Ythgagehgiooklaa.G.Mem.ldW (Go.Proofs.Ythgagehgiooklaa.G.Mem.fuM { n := n13, g := g13, h := h13, off := x5, burns := x6, left := x7, steps := x8 } x3) x2 (3 : Nat) == Go.Proofs.Ythgagehgiooklaa.G.RMem.ldW (Go.Proofs.Ythgagehgiooklaa.G.RMem.fuM { n := n14, S := g14, k := n15, G := g15, L := h15, off := x9, left := x10, count := x11 } x3) x2 (3 : Nat) && (Go.Proofs.Ythgagehgiooklaa.G.Mem.ldW (Go.Proofs.Ythgagehgiooklaa.G.Mem.fuM { n := n13, g := g13, h := h13, off := x5, burns := x6, left := x7, steps := x8 } x3) x2 (4 : Nat) == Go.Proofs.Ythgagehgiooklaa.G.RMem.ldW (Go.Proofs.Ythgagehgiooklaa.G.RMem.fuM { n := n14, S := g14, k := n15, G := g15, L := h15, off := x9, left := x10, count := x11 } x3) x2 (4 : Nat) && (Go.Proofs.Ythgagehgiooklaa.G.Mem.ldW (Go.Proofs.Ythgagehgiooklaa.G.Mem.fuM { n := n13, g := g13, h := h13, off := x5, burns := x6, left := x7, steps := x8 } x3) x2 (5 : Nat) == Go.Proofs.Ythgagehgiooklaa.G.RMem.ldW (Go.Proofs.Ythgagehgiooklaa.G.RMem.fuM { n := n14, S := g14, k := n15, G := g15, L := h15, off := x9, left := x10, count := x11 } x3) x2 (5 : Nat) && (Go.Proofs.Ythgagehgiooklaa.G.Mem.ldW (Go.Proofs.Ythgagehgiooklaa.G.Mem.fuM { n := n13, g := g13, h := h13, off := x5, burns := x6, left := x7, steps := x8 } x3) x2 (6 : Nat) == Go.Proofs.Ythgagehgiooklaa.G.RMem.ldW (Go.Proofs.Ythgagehgiooklaa.G.RMem.fuM { n := n14, S := g14, k := n15, G := g15, L := h15, off := x9, left := x10, count := x11 } x3) x2 (6 : Nat) && (Go.Proofs.Ythgagehgiooklaa.G.Mem.ldW (Go.Proofs.Ythgagehgiooklaa.G.Mem.fuM { n := n13, g := g13, h := h13, off := x5, burns := x6, left := x7, steps := x8 } x3) x2 (7 : Nat) == Go.Proofs.Ythgagehgiooklaa.G.RMem.ldW (Go.Proofs.Ythgagehgiooklaa.G.RMem.fuM { n := n14, S := g14, k := n15, G := g15, L := h15, off := x9, left := x10, count := x11 } x3) x2 (7 : Nat) && Bool.true)))))))
noncomputable def does_c1 (x2 : Int) (x5 : Bool) (x6 : Bool) (x7 : Int) (x8 : Int) (x9 : Bool) (x10 : Int) (x11 : Int) (n12 : Nat) (g12 : Nat → Nat → Int) (n13 : Nat) (g13 : Nat → Nat → Int) (h13 : Nat → Nat → Int) (n14 : Nat) (g14 : Nat → Nat → Int) (n15 : Nat) (g15 : Nat → Nat → Int) (h15 : Nat → Nat → Int) : Bool := Go.Proofs.Ythgagehgiooklaa.G.Mem.ldW (Go.Proofs.Ythgagehgiooklaa.G.Mem.crM { n := n13, g := g13, h := h13, off := x5, burns := x6, left := x7, steps := x8 } (fun (j : Nat) => g12 ((0 : Nat) + j) (0 : Nat)) n12) x2 (4 : Nat) == Go.Proofs.Ythgagehgiooklaa.G.RMem.ldW (Go.Proofs.Ythgagehgiooklaa.G.RMem.crM { n := n14, S := g14, k := n15, G := g15, L := h15, off := x9, left := x10, count := x11 } (fun (j : Nat) => g12 ((0 : Nat) + j) (0 : Nat)) n12) x2 (4 : Nat) && (Go.Proofs.Ythgagehgiooklaa.G.Mem.ldW (Go.Proofs.Ythgagehgiooklaa.G.Mem.crM { n := n13, g := g13, h := h13, off := x5, burns := x6, left := x7, steps := x8 } (fun (j : Nat) => g12 ((0 : Nat) + j) (0 : Nat)) n12) x2 (5 : Nat) == Go.Proofs.Ythgagehgiooklaa.G.RMem.ldW (Go.Proofs.Ythgagehgiooklaa.G.RMem.crM { n := n14, S := g14, k := n15, G := g15, L := h15, off := x9, left := x10, count := x11 } (fun (j : Nat) => g12 ((0 : Nat) + j) (0 : Nat)) n12) x2 (5 : Nat) && (Go.Proofs.Ythgagehgiooklaa.G.Mem.ldW (Go.Proofs.Ythgagehgiooklaa.G.Mem.crM { n := n13, g := g13, h := h13, off := x5, burns := x6, left := x7, steps := x8 } (fun (j : Nat) => g12 ((0 : Nat) + j) (0 : Nat)) n12) x2 (6 : Nat) == Go.Proofs.Ythgagehgiooklaa.G.RMem.ldW (Go.Proofs.Ythgagehgiooklaa.G.RMem.crM { n := n14, S := g14, k := n15, G := g15, L := h15, off := x9, left := x10, count := x11 } (fun (j : Nat) => g12 ((0 : Nat) + j) (0 : Nat)) n12) x2 (6 : Nat) && (Go.Proofs.Ythgagehgiooklaa.G.Mem.ldW (Go.Proofs.Ythgagehgiooklaa.G.Mem.crM { n := n13, g := g13, h := h13, off := x5, burns := x6, left := x7, steps := x8 } (fun (j : Nat) => g12 ((0 : Nat) + j) (0 : Nat)) n12) x2 (7 : Nat) == Go.Proofs.Ythgagehgiooklaa.G.RMem.ldW (Go.Proofs.Ythgagehgiooklaa.G.RMem.crM { n := n14, S := g14, k := n15, G := g15, L := h15, off := x9, left := x10, count := x11 } (fun (j : Nat) => g12 ((0 : Nat) + j) (0 : Nat)) n12) x2 (7 : Nat) && Bool.true)))
noncomputable def does_c2 (x2 : Int) (x5 : Bool) (x6 : Bool) (x7 : Int) (x8 : Int) (x9 : Bool) (x10 : Int) (x11 : Int) (n12 : Nat) (g12 : Nat → Nat → Int) (n13 : Nat) (g13 : Nat → Nat → Int) (h13 : Nat → Nat → Int) (n14 : Nat) (g14 : Nat → Nat → Int) (n15 : Nat) (g15 : Nat → Nat → Int) (h15 : Nat → Nat → Int) : Bool := Go.Proofs.Ythgagehgiooklaa.G.Mem.ldW (Go.Proofs.Ythgagehgiooklaa.G.Mem.crM { n := n13, g := g13, h := h13, off := x5, burns := x6, left := x7, steps := x8 } (fun (j : Nat) => g12 ((0 : Nat) + j) (0 : Nat)) n12) x2 (3 : Nat) == Go.Proofs.Ythgagehgiooklaa.G.RMem.ldW (Go.Proofs.Ythgagehgiooklaa.G.RMem.crM { n := n14, S := g14, k := n15, G := g15, L := h15, off := x9, left := x10, count := x11 } (fun (j : Nat) => g12 ((0 : Nat) + j) (0 : Nat)) n12) x2 (3 : Nat) && (does_c1 x2 x5 x6 x7 x8 x9 x10 x11 n12 g12 n13 g13 h13 n14 g14 n15 g15 h15)
noncomputable def does_c3 (x2 : Int) (x5 : Bool) (x6 : Bool) (x7 : Int) (x8 : Int) (x9 : Bool) (x10 : Int) (x11 : Int) (n12 : Nat) (g12 : Nat → Nat → Int) (n13 : Nat) (g13 : Nat → Nat → Int) (h13 : Nat → Nat → Int) (n14 : Nat) (g14 : Nat → Nat → Int) (n15 : Nat) (g15 : Nat → Nat → Int) (h15 : Nat → Nat → Int) : Bool := Go.Proofs.Ythgagehgiooklaa.G.Mem.ldW (Go.Proofs.Ythgagehgiooklaa.G.Mem.crM { n := n13, g := g13, h := h13, off := x5, burns := x6, left := x7, steps := x8 } (fun (j : Nat) => g12 ((0 : Nat) + j) (0 : Nat)) n12) x2 (2 : Nat) == Go.Proofs.Ythgagehgiooklaa.G.RMem.ldW (Go.Proofs.Ythgagehgiooklaa.G.RMem.crM { n := n14, S := g14, k := n15, G := g15, L := h15, off := x9, left := x10, count := x11 } (fun (j : Nat) => g12 ((0 : Nat) + j) (0 : Nat)) n12) x2 (2 : Nat) && (does_c2 x2 x5 x6 x7 x8 x9 x10 x11 n12 g12 n13 g13 h13 n14 g14 n15 g15 h15)
noncomputable def does_c4 (x2 : Int) (x5 : Bool) (x6 : Bool) (x7 : Int) (x8 : Int) (x9 : Bool) (x10 : Int) (x11 : Int) (n12 : Nat) (g12 : Nat → Nat → Int) (n13 : Nat) (g13 : Nat → Nat → Int) (h13 : Nat → Nat → Int) (n14 : Nat) (g14 : Nat → Nat → Int) (n15 : Nat) (g15 : Nat → Nat → Int) (h15 : Nat → Nat → Int) : Bool := Go.Proofs.Ythgagehgiooklaa.G.Mem.ldW (Go.Proofs.Ythgagehgiooklaa.G.Mem.crM { n := n13, g := g13, h := h13, off := x5, burns := x6, left := x7, steps := x8 } (fun (j : Nat) => g12 ((0 : Nat) + j) (0 : Nat)) n12) x2 (1 : Nat) == Go.Proofs.Ythgagehgiooklaa.G.RMem.ldW (Go.Proofs.Ythgagehgiooklaa.G.RMem.crM { n := n14, S := g14, k := n15, G := g15, L := h15, off := x9, left := x10, count := x11 } (fun (j : Nat) => g12 ((0 : Nat) + j) (0 : Nat)) n12) x2 (1 : Nat) && (does_c3 x2 x5 x6 x7 x8 x9 x10 x11 n12 g12 n13 g13 h13 n14 g14 n15 g15 h15)
noncomputable def does_c5 (x2 : Int) (x5 : Bool) (x6 : Bool) (x7 : Int) (x8 : Int) (x9 : Bool) (x10 : Int) (x11 : Int) (n12 : Nat) (g12 : Nat → Nat → Int) (n13 : Nat) (g13 : Nat → Nat → Int) (h13 : Nat → Nat → Int) (n14 : Nat) (g14 : Nat → Nat → Int) (n15 : Nat) (g15 : Nat → Nat → Int) (h15 : Nat → Nat → Int) : Bool := Go.Proofs.Ythgagehgiooklaa.G.Mem.ldW (Go.Proofs.Ythgagehgiooklaa.G.Mem.crM { n := n13, g := g13, h := h13, off := x5, burns := x6, left := x7, steps := x8 } (fun (j : Nat) => g12 ((0 : Nat) + j) (0 : Nat)) n12) x2 (0 : Nat) == Go.Proofs.Ythgagehgiooklaa.G.RMem.ldW (Go.Proofs.Ythgagehgiooklaa.G.RMem.crM { n := n14, S := g14, k := n15, G := g15, L := h15, off := x9, left := x10, count := x11 } (fun (j : Nat) => g12 ((0 : Nat) + j) (0 : Nat)) n12) x2 (0 : Nat) && (does_c4 x2 x5 x6 x7 x8 x9 x10 x11 n12 g12 n13 g13 h13 n14 g14 n15 g15 h15)
noncomputable def T_does (x0 : Int) (x1 : Int) (x2 : Int) (x3 : Int) (x4 : Int) (x5 : Bool) (x6 : Bool) (x7 : Int) (x8 : Int) (x9 : Bool) (x10 : Int) (x11 : Int) (n12 : Nat) (g12 : Nat → Nat → Int) (n13 : Nat) (g13 : Nat → Nat → Int) (h13 : Nat → Nat → Int) (n14 : Nat) (g14 : Nat → Nat → Int) (n15 : Nat) (g15 : Nat → Nat → Int) (h15 : Nat → Nat → Int) : Tr (List At) :=
 .br 0 (Go.Proofs.Ythgagehgiooklaa.G.ok_kind x0 (12 : Int))
 (.br 14 (Go.Proofs.Ythgagehgiooklaa.G.r_kind_0 x0 (12 : Int) == (0 : Int))
 (.br 0 (Go.Proofs.Ythgagehgiooklaa.G.pdec (Go.Proofs.Ythgagehgiooklaa.G.Mem.Ok (900000 : Int) { n := n13, g := g13, h := h13, off := x5, burns := x6, left := x7, steps := x8 }))
 (.br 0 (Go.Proofs.Ythgagehgiooklaa.G.pdec (Go.Proofs.Ythgagehgiooklaa.G.RMem.Ok (900000 : Int) { n := n14, S := g14, k := n15, G := g15, L := h15, off := x9, left := x10, count := x11 }))
 (.ok [(.b (Go.Proofs.Ythgagehgiooklaa.G.Mem.stC { n := n13, g := g13, h := h13, off := x5, burns := x6, left := x7, steps := x8 } x2 x3 == Go.Proofs.Ythgagehgiooklaa.G.RMem.stC { n := n14, S := g14, k := n15, G := g15, L := h15, off := x9, left := x10, count := x11 } x2 x3)), (.b ((Go.Proofs.Ythgagehgiooklaa.G.Mem.stM { n := n13, g := g13, h := h13, off := x5, burns := x6, left := x7, steps := x8 } x2 x3 x4).off)), (.b ((Go.Proofs.Ythgagehgiooklaa.G.Mem.stM { n := n13, g := g13, h := h13, off := x5, burns := x6, left := x7, steps := x8 } x2 x3 x4).burns)), (.i ((Go.Proofs.Ythgagehgiooklaa.G.Mem.stM { n := n13, g := g13, h := h13, off := x5, burns := x6, left := x7, steps := x8 } x2 x3 x4).left)), (.i ((Go.Proofs.Ythgagehgiooklaa.G.Mem.stM { n := n13, g := g13, h := h13, off := x5, burns := x6, left := x7, steps := x8 } x2 x3 x4).steps)), (.b ((Go.Proofs.Ythgagehgiooklaa.G.RMem.stM { n := n14, S := g14, k := n15, G := g15, L := h15, off := x9, left := x10, count := x11 } x2 x3 x4).off)), (.i ((Go.Proofs.Ythgagehgiooklaa.G.RMem.stM { n := n14, S := g14, k := n15, G := g15, L := h15, off := x9, left := x10, count := x11 } x2 x3 x4).left)), (.i ((Go.Proofs.Ythgagehgiooklaa.G.RMem.stM { n := n14, S := g14, k := n15, G := g15, L := h15, off := x9, left := x10, count := x11 } x2 x3 x4).count)), (.q ((Go.Proofs.Ythgagehgiooklaa.G.Mem.stM { n := n13, g := g13, h := h13, off := x5, burns := x6, left := x7, steps := x8 } x2 x3 x4).n) ((Go.Proofs.Ythgagehgiooklaa.G.Mem.stM { n := n13, g := g13, h := h13, off := x5, burns := x6, left := x7, steps := x8 } x2 x3 x4).g) ((16 : Nat)) ((2 : Nat)) ((Go.Proofs.Ythgagehgiooklaa.G.Mem.stM { n := n13, g := g13, h := h13, off := x5, burns := x6, left := x7, steps := x8 } x2 x3 x4).h)), (.r ((Go.Proofs.Ythgagehgiooklaa.G.RMem.stM { n := n14, S := g14, k := n15, G := g15, L := h15, off := x9, left := x10, count := x11 } x2 x3 x4).n) ((Go.Proofs.Ythgagehgiooklaa.G.RMem.stM { n := n14, S := g14, k := n15, G := g15, L := h15, off := x9, left := x10, count := x11 } x2 x3 x4).S)), (.q ((Go.Proofs.Ythgagehgiooklaa.G.RMem.stM { n := n14, S := g14, k := n15, G := g15, L := h15, off := x9, left := x10, count := x11 } x2 x3 x4).k) ((Go.Proofs.Ythgagehgiooklaa.G.RMem.stM { n := n14, S := g14, k := n15, G := g15, L := h15, off := x9, left := x10, count := x11 } x2 x3 x4).G) ((0 : Nat)) ((10 : Nat)) ((Go.Proofs.Ythgagehgiooklaa.G.RMem.stM { n := n14, S := g14, k := n15, G := g15, L := h15, off := x9, left := x10, count := x11 } x2 x3 x4).L))])
 (.no))
 (.no))
 (.br 14 (Go.Proofs.Ythgagehgiooklaa.G.r_kind_0 x0 (12 : Int) == (1 : Int))
 (.br 0 (Go.Proofs.Ythgagehgiooklaa.G.pdec (Go.Proofs.Ythgagehgiooklaa.G.Mem.Ok (900000 : Int) { n := n13, g := g13, h := h13, off := x5, burns := x6, left := x7, steps := x8 }))
 (.br 0 (Go.Proofs.Ythgagehgiooklaa.G.pdec (Go.Proofs.Ythgagehgiooklaa.G.RMem.Ok (900000 : Int) { n := n14, S := g14, k := n15, G := g15, L := h15, off := x9, left := x10, count := x11 }))
 (.ok [(.b (Go.Proofs.Ythgagehgiooklaa.G.Mem.stC { n := n13, g := g13, h := h13, off := x5, burns := x6, left := x7, steps := x8 } x2 x3 == Go.Proofs.Ythgagehgiooklaa.G.RMem.stC { n := n14, S := g14, k := n15, G := g15, L := h15, off := x9, left := x10, count := x11 } x2 x3)), (.b ((Go.Proofs.Ythgagehgiooklaa.G.Mem.stM { n := n13, g := g13, h := h13, off := x5, burns := x6, left := x7, steps := x8 } x2 x3 x4).off)), (.b ((Go.Proofs.Ythgagehgiooklaa.G.Mem.stM { n := n13, g := g13, h := h13, off := x5, burns := x6, left := x7, steps := x8 } x2 x3 x4).burns)), (.i ((Go.Proofs.Ythgagehgiooklaa.G.Mem.stM { n := n13, g := g13, h := h13, off := x5, burns := x6, left := x7, steps := x8 } x2 x3 x4).left)), (.i ((Go.Proofs.Ythgagehgiooklaa.G.Mem.stM { n := n13, g := g13, h := h13, off := x5, burns := x6, left := x7, steps := x8 } x2 x3 x4).steps)), (.b ((Go.Proofs.Ythgagehgiooklaa.G.RMem.stM { n := n14, S := g14, k := n15, G := g15, L := h15, off := x9, left := x10, count := x11 } x2 x3 x4).off)), (.i ((Go.Proofs.Ythgagehgiooklaa.G.RMem.stM { n := n14, S := g14, k := n15, G := g15, L := h15, off := x9, left := x10, count := x11 } x2 x3 x4).left)), (.i ((Go.Proofs.Ythgagehgiooklaa.G.RMem.stM { n := n14, S := g14, k := n15, G := g15, L := h15, off := x9, left := x10, count := x11 } x2 x3 x4).count)), (.q ((Go.Proofs.Ythgagehgiooklaa.G.Mem.stM { n := n13, g := g13, h := h13, off := x5, burns := x6, left := x7, steps := x8 } x2 x3 x4).n) ((Go.Proofs.Ythgagehgiooklaa.G.Mem.stM { n := n13, g := g13, h := h13, off := x5, burns := x6, left := x7, steps := x8 } x2 x3 x4).g) ((16 : Nat)) ((2 : Nat)) ((Go.Proofs.Ythgagehgiooklaa.G.Mem.stM { n := n13, g := g13, h := h13, off := x5, burns := x6, left := x7, steps := x8 } x2 x3 x4).h)), (.r ((Go.Proofs.Ythgagehgiooklaa.G.RMem.stM { n := n14, S := g14, k := n15, G := g15, L := h15, off := x9, left := x10, count := x11 } x2 x3 x4).n) ((Go.Proofs.Ythgagehgiooklaa.G.RMem.stM { n := n14, S := g14, k := n15, G := g15, L := h15, off := x9, left := x10, count := x11 } x2 x3 x4).S)), (.q ((Go.Proofs.Ythgagehgiooklaa.G.RMem.stM { n := n14, S := g14, k := n15, G := g15, L := h15, off := x9, left := x10, count := x11 } x2 x3 x4).k) ((Go.Proofs.Ythgagehgiooklaa.G.RMem.stM { n := n14, S := g14, k := n15, G := g15, L := h15, off := x9, left := x10, count := x11 } x2 x3 x4).G) ((0 : Nat)) ((10 : Nat)) ((Go.Proofs.Ythgagehgiooklaa.G.RMem.stM { n := n14, S := g14, k := n15, G := g15, L := h15, off := x9, left := x10, count := x11 } x2 x3 x4).L))])
 (.no))
 (.no))
 (.br 14 (Go.Proofs.Ythgagehgiooklaa.G.r_kind_0 x0 (12 : Int) == (2 : Int))
 (.br 0 (Go.Proofs.Ythgagehgiooklaa.G.pdec (Go.Proofs.Ythgagehgiooklaa.G.Mem.Ok (900000 : Int) { n := n13, g := g13, h := h13, off := x5, burns := x6, left := x7, steps := x8 }))
 (.br 0 (Go.Proofs.Ythgagehgiooklaa.G.pdec (Go.Proofs.Ythgagehgiooklaa.G.RMem.Ok (900000 : Int) { n := n14, S := g14, k := n15, G := g15, L := h15, off := x9, left := x10, count := x11 }))
 (.ok [(.b (Go.Proofs.Ythgagehgiooklaa.G.Mem.stC { n := n13, g := g13, h := h13, off := x5, burns := x6, left := x7, steps := x8 } x2 x3 == Go.Proofs.Ythgagehgiooklaa.G.RMem.stC { n := n14, S := g14, k := n15, G := g15, L := h15, off := x9, left := x10, count := x11 } x2 x3)), (.b ((Go.Proofs.Ythgagehgiooklaa.G.Mem.stM { n := n13, g := g13, h := h13, off := x5, burns := x6, left := x7, steps := x8 } x2 x3 x4).off)), (.b ((Go.Proofs.Ythgagehgiooklaa.G.Mem.stM { n := n13, g := g13, h := h13, off := x5, burns := x6, left := x7, steps := x8 } x2 x3 x4).burns)), (.i ((Go.Proofs.Ythgagehgiooklaa.G.Mem.stM { n := n13, g := g13, h := h13, off := x5, burns := x6, left := x7, steps := x8 } x2 x3 x4).left)), (.i ((Go.Proofs.Ythgagehgiooklaa.G.Mem.stM { n := n13, g := g13, h := h13, off := x5, burns := x6, left := x7, steps := x8 } x2 x3 x4).steps)), (.b ((Go.Proofs.Ythgagehgiooklaa.G.RMem.stM { n := n14, S := g14, k := n15, G := g15, L := h15, off := x9, left := x10, count := x11 } x2 x3 x4).off)), (.i ((Go.Proofs.Ythgagehgiooklaa.G.RMem.stM { n := n14, S := g14, k := n15, G := g15, L := h15, off := x9, left := x10, count := x11 } x2 x3 x4).left)), (.i ((Go.Proofs.Ythgagehgiooklaa.G.RMem.stM { n := n14, S := g14, k := n15, G := g15, L := h15, off := x9, left := x10, count := x11 } x2 x3 x4).count)), (.q ((Go.Proofs.Ythgagehgiooklaa.G.Mem.stM { n := n13, g := g13, h := h13, off := x5, burns := x6, left := x7, steps := x8 } x2 x3 x4).n) ((Go.Proofs.Ythgagehgiooklaa.G.Mem.stM { n := n13, g := g13, h := h13, off := x5, burns := x6, left := x7, steps := x8 } x2 x3 x4).g) ((16 : Nat)) ((2 : Nat)) ((Go.Proofs.Ythgagehgiooklaa.G.Mem.stM { n := n13, g := g13, h := h13, off := x5, burns := x6, left := x7, steps := x8 } x2 x3 x4).h)), (.r ((Go.Proofs.Ythgagehgiooklaa.G.RMem.stM { n := n14, S := g14, k := n15, G := g15, L := h15, off := x9, left := x10, count := x11 } x2 x3 x4).n) ((Go.Proofs.Ythgagehgiooklaa.G.RMem.stM { n := n14, S := g14, k := n15, G := g15, L := h15, off := x9, left := x10, count := x11 } x2 x3 x4).S)), (.q ((Go.Proofs.Ythgagehgiooklaa.G.RMem.stM { n := n14, S := g14, k := n15, G := g15, L := h15, off := x9, left := x10, count := x11 } x2 x3 x4).k) ((Go.Proofs.Ythgagehgiooklaa.G.RMem.stM { n := n14, S := g14, k := n15, G := g15, L := h15, off := x9, left := x10, count := x11 } x2 x3 x4).G) ((0 : Nat)) ((10 : Nat)) ((Go.Proofs.Ythgagehgiooklaa.G.RMem.stM { n := n14, S := g14, k := n15, G := g15, L := h15, off := x9, left := x10, count := x11 } x2 x3 x4).L))])
 (.no))
 (.no))
 (.br 14 (Go.Proofs.Ythgagehgiooklaa.G.r_kind_0 x0 (12 : Int) == (3 : Int))
 (.br 0 (Go.Proofs.Ythgagehgiooklaa.G.pdec (Go.Proofs.Ythgagehgiooklaa.G.Mem.Ok (900000 : Int) { n := n13, g := g13, h := h13, off := x5, burns := x6, left := x7, steps := x8 }))
 (.br 0 (Go.Proofs.Ythgagehgiooklaa.G.pdec (Go.Proofs.Ythgagehgiooklaa.G.RMem.Ok (900000 : Int) { n := n14, S := g14, k := n15, G := g15, L := h15, off := x9, left := x10, count := x11 }))
 (.ok [(.b (Go.Proofs.Ythgagehgiooklaa.G.Mem.stC { n := n13, g := g13, h := h13, off := x5, burns := x6, left := x7, steps := x8 } x2 x3 == Go.Proofs.Ythgagehgiooklaa.G.RMem.stC { n := n14, S := g14, k := n15, G := g15, L := h15, off := x9, left := x10, count := x11 } x2 x3)), (.b ((Go.Proofs.Ythgagehgiooklaa.G.Mem.stM { n := n13, g := g13, h := h13, off := x5, burns := x6, left := x7, steps := x8 } x2 x3 x4).off)), (.b ((Go.Proofs.Ythgagehgiooklaa.G.Mem.stM { n := n13, g := g13, h := h13, off := x5, burns := x6, left := x7, steps := x8 } x2 x3 x4).burns)), (.i ((Go.Proofs.Ythgagehgiooklaa.G.Mem.stM { n := n13, g := g13, h := h13, off := x5, burns := x6, left := x7, steps := x8 } x2 x3 x4).left)), (.i ((Go.Proofs.Ythgagehgiooklaa.G.Mem.stM { n := n13, g := g13, h := h13, off := x5, burns := x6, left := x7, steps := x8 } x2 x3 x4).steps)), (.b ((Go.Proofs.Ythgagehgiooklaa.G.RMem.stM { n := n14, S := g14, k := n15, G := g15, L := h15, off := x9, left := x10, count := x11 } x2 x3 x4).off)), (.i ((Go.Proofs.Ythgagehgiooklaa.G.RMem.stM { n := n14, S := g14, k := n15, G := g15, L := h15, off := x9, left := x10, count := x11 } x2 x3 x4).left)), (.i ((Go.Proofs.Ythgagehgiooklaa.G.RMem.stM { n := n14, S := g14, k := n15, G := g15, L := h15, off := x9, left := x10, count := x11 } x2 x3 x4).count)), (.q ((Go.Proofs.Ythgagehgiooklaa.G.Mem.stM { n := n13, g := g13, h := h13, off := x5, burns := x6, left := x7, steps := x8 } x2 x3 x4).n) ((Go.Proofs.Ythgagehgiooklaa.G.Mem.stM { n := n13, g := g13, h := h13, off := x5, burns := x6, left := x7, steps := x8 } x2 x3 x4).g) ((16 : Nat)) ((2 : Nat)) ((Go.Proofs.Ythgagehgiooklaa.G.Mem.stM { n := n13, g := g13, h := h13, off := x5, burns := x6, left := x7, steps := x8 } x2 x3 x4).h)), (.r ((Go.Proofs.Ythgagehgiooklaa.G.RMem.stM { n := n14, S := g14, k := n15, G := g15, L := h15, off := x9, left := x10, count := x11 } x2 x3 x4).n) ((Go.Proofs.Ythgagehgiooklaa.G.RMem.stM { n := n14, S := g14, k := n15, G := g15, L := h15, off := x9, left := x10, count := x11 } x2 x3 x4).S)), (.q ((Go.Proofs.Ythgagehgiooklaa.G.RMem.stM { n := n14, S := g14, k := n15, G := g15, L := h15, off := x9, left := x10, count := x11 } x2 x3 x4).k) ((Go.Proofs.Ythgagehgiooklaa.G.RMem.stM { n := n14, S := g14, k := n15, G := g15, L := h15, off := x9, left := x10, count := x11 } x2 x3 x4).G) ((0 : Nat)) ((10 : Nat)) ((Go.Proofs.Ythgagehgiooklaa.G.RMem.stM { n := n14, S := g14, k := n15, G := g15, L := h15, off := x9, left := x10, count := x11 } x2 x3 x4).L))])
 (.no))
 (.no))
 (.br 14 (Go.Proofs.Ythgagehgiooklaa.G.r_kind_0 x0 (12 : Int) == (4 : Int))
 (.br 0 (Go.Proofs.Ythgagehgiooklaa.G.pdec (Go.Proofs.Ythgagehgiooklaa.G.Mem.Ok (900000 : Int) { n := n13, g := g13, h := h13, off := x5, burns := x6, left := x7, steps := x8 }))
 (.br 0 (Go.Proofs.Ythgagehgiooklaa.G.pdec (Go.Proofs.Ythgagehgiooklaa.G.RMem.Ok (900000 : Int) { n := n14, S := g14, k := n15, G := g15, L := h15, off := x9, left := x10, count := x11 }))
 (.ok [(.b (Go.Proofs.Ythgagehgiooklaa.G.Mem.stC { n := n13, g := g13, h := h13, off := x5, burns := x6, left := x7, steps := x8 } x2 x3 == Go.Proofs.Ythgagehgiooklaa.G.RMem.stC { n := n14, S := g14, k := n15, G := g15, L := h15, off := x9, left := x10, count := x11 } x2 x3)), (.b ((Go.Proofs.Ythgagehgiooklaa.G.Mem.stM { n := n13, g := g13, h := h13, off := x5, burns := x6, left := x7, steps := x8 } x2 x3 x4).off)), (.b ((Go.Proofs.Ythgagehgiooklaa.G.Mem.stM { n := n13, g := g13, h := h13, off := x5, burns := x6, left := x7, steps := x8 } x2 x3 x4).burns)), (.i ((Go.Proofs.Ythgagehgiooklaa.G.Mem.stM { n := n13, g := g13, h := h13, off := x5, burns := x6, left := x7, steps := x8 } x2 x3 x4).left)), (.i ((Go.Proofs.Ythgagehgiooklaa.G.Mem.stM { n := n13, g := g13, h := h13, off := x5, burns := x6, left := x7, steps := x8 } x2 x3 x4).steps)), (.b ((Go.Proofs.Ythgagehgiooklaa.G.RMem.stM { n := n14, S := g14, k := n15, G := g15, L := h15, off := x9, left := x10, count := x11 } x2 x3 x4).off)), (.i ((Go.Proofs.Ythgagehgiooklaa.G.RMem.stM { n := n14, S := g14, k := n15, G := g15, L := h15, off := x9, left := x10, count := x11 } x2 x3 x4).left)), (.i ((Go.Proofs.Ythgagehgiooklaa.G.RMem.stM { n := n14, S := g14, k := n15, G := g15, L := h15, off := x9, left := x10, count := x11 } x2 x3 x4).count)), (.q ((Go.Proofs.Ythgagehgiooklaa.G.Mem.stM { n := n13, g := g13, h := h13, off := x5, burns := x6, left := x7, steps := x8 } x2 x3 x4).n) ((Go.Proofs.Ythgagehgiooklaa.G.Mem.stM { n := n13, g := g13, h := h13, off := x5, burns := x6, left := x7, steps := x8 } x2 x3 x4).g) ((16 : Nat)) ((2 : Nat)) ((Go.Proofs.Ythgagehgiooklaa.G.Mem.stM { n := n13, g := g13, h := h13, off := x5, burns := x6, left := x7, steps := x8 } x2 x3 x4).h)), (.r ((Go.Proofs.Ythgagehgiooklaa.G.RMem.stM { n := n14, S := g14, k := n15, G := g15, L := h15, off := x9, left := x10, count := x11 } x2 x3 x4).n) ((Go.Proofs.Ythgagehgiooklaa.G.RMem.stM { n := n14, S := g14, k := n15, G := g15, L := h15, off := x9, left := x10, count := x11 } x2 x3 x4).S)), (.q ((Go.Proofs.Ythgagehgiooklaa.G.RMem.stM { n := n14, S := g14, k := n15, G := g15, L := h15, off := x9, left := x10, count := x11 } x2 x3 x4).k) ((Go.Proofs.Ythgagehgiooklaa.G.RMem.stM { n := n14, S := g14, k := n15, G := g15, L := h15, off := x9, left := x10, count := x11 } x2 x3 x4).G) ((0 : Nat)) ((10 : Nat)) ((Go.Proofs.Ythgagehgiooklaa.G.RMem.stM { n := n14, S := g14, k := n15, G := g15, L := h15, off := x9, left := x10, count := x11 } x2 x3 x4).L))])
 (.no))
 (.no))
 (.br 37 (Go.Proofs.Ythgagehgiooklaa.G.r_kind_0 x0 (12 : Int) == (5 : Int))
 (.br 0 (Go.Proofs.Ythgagehgiooklaa.G.pdec (Go.Proofs.Ythgagehgiooklaa.G.Mem.Ok (900000 : Int) { n := n13, g := g13, h := h13, off := x5, burns := x6, left := x7, steps := x8 }))
 (.br 0 (Go.Proofs.Ythgagehgiooklaa.G.pdec (Go.Proofs.Ythgagehgiooklaa.G.RMem.Ok (900000 : Int) { n := n14, S := g14, k := n15, G := g15, L := h15, off := x9, left := x10, count := x11 }))
 (.ok [(.b (Go.Proofs.Ythgagehgiooklaa.G.Mem.stC { n := n13, g := g13, h := h13, off := x5, burns := x6, left := x7, steps := x8 } x2 x1 == Go.Proofs.Ythgagehgiooklaa.G.RMem.flC { n := n14, S := g14, k := n15, G := g15, L := h15, off := x9, left := x10, count := x11 } x1 x2)), (.b ((Go.Proofs.Ythgagehgiooklaa.G.Mem.flM { n := n13, g := g13, h := h13, off := x5, burns := x6, left := x7, steps := x8 } x1 x2).off)), (.b ((Go.Proofs.Ythgagehgiooklaa.G.Mem.flM { n := n13, g := g13, h := h13, off := x5, burns := x6, left := x7, steps := x8 } x1 x2).burns)), (.i ((Go.Proofs.Ythgagehgiooklaa.G.Mem.flM { n := n13, g := g13, h := h13, off := x5, burns := x6, left := x7, steps := x8 } x1 x2).left)), (.i ((Go.Proofs.Ythgagehgiooklaa.G.Mem.flM { n := n13, g := g13, h := h13, off := x5, burns := x6, left := x7, steps := x8 } x1 x2).steps)), (.b ((Go.Proofs.Ythgagehgiooklaa.G.RMem.flM { n := n14, S := g14, k := n15, G := g15, L := h15, off := x9, left := x10, count := x11 } x1 x2).off)), (.i ((Go.Proofs.Ythgagehgiooklaa.G.RMem.flM { n := n14, S := g14, k := n15, G := g15, L := h15, off := x9, left := x10, count := x11 } x1 x2).left)), (.i ((Go.Proofs.Ythgagehgiooklaa.G.RMem.flM { n := n14, S := g14, k := n15, G := g15, L := h15, off := x9, left := x10, count := x11 } x1 x2).count)), (.q ((Go.Proofs.Ythgagehgiooklaa.G.Mem.flM { n := n13, g := g13, h := h13, off := x5, burns := x6, left := x7, steps := x8 } x1 x2).n) ((Go.Proofs.Ythgagehgiooklaa.G.Mem.flM { n := n13, g := g13, h := h13, off := x5, burns := x6, left := x7, steps := x8 } x1 x2).g) ((16 : Nat)) ((2 : Nat)) ((Go.Proofs.Ythgagehgiooklaa.G.Mem.flM { n := n13, g := g13, h := h13, off := x5, burns := x6, left := x7, steps := x8 } x1 x2).h)), (.r ((Go.Proofs.Ythgagehgiooklaa.G.RMem.flM { n := n14, S := g14, k := n15, G := g15, L := h15, off := x9, left := x10, count := x11 } x1 x2).n) ((Go.Proofs.Ythgagehgiooklaa.G.RMem.flM { n := n14, S := g14, k := n15, G := g15, L := h15, off := x9, left := x10, count := x11 } x1 x2).S)), (.q ((Go.Proofs.Ythgagehgiooklaa.G.RMem.flM { n := n14, S := g14, k := n15, G := g15, L := h15, off := x9, left := x10, count := x11 } x1 x2).k) ((Go.Proofs.Ythgagehgiooklaa.G.RMem.flM { n := n14, S := g14, k := n15, G := g15, L := h15, off := x9, left := x10, count := x11 } x1 x2).G) ((0 : Nat)) ((10 : Nat)) ((Go.Proofs.Ythgagehgiooklaa.G.RMem.flM { n := n14, S := g14, k := n15, G := g15, L := h15, off := x9, left := x10, count := x11 } x1 x2).L))])
 (.no))
 (.no))
 (.br 52 (Go.Proofs.Ythgagehgiooklaa.G.r_kind_0 x0 (12 : Int) == (6 : Int))
 (.br 0 (Go.Proofs.Ythgagehgiooklaa.G.pdec (Go.Proofs.Ythgagehgiooklaa.G.Mem.Ok (900000 : Int) { n := n13, g := g13, h := h13, off := x5, burns := x6, left := x7, steps := x8 }))
 (.br 0 (Go.Proofs.Ythgagehgiooklaa.G.pdec (Go.Proofs.Ythgagehgiooklaa.G.RMem.Ok (900000 : Int) { n := n14, S := g14, k := n15, G := g15, L := h15, off := x9, left := x10, count := x11 }))
 (.ok [(.b (Go.Proofs.Ythgagehgiooklaa.G.Mem.feC { n := n13, g := g13, h := h13, off := x5, burns := x6, left := x7, steps := x8 } x1 == Go.Proofs.Ythgagehgiooklaa.G.RMem.feC { n := n14, S := g14, k := n15, G := g15, L := h15, off := x9, left := x10, count := x11 } x1)), (.b ((Go.Proofs.Ythgagehgiooklaa.G.Mem.feM { n := n13, g := g13, h := h13, off := x5, burns := x6, left := x7, steps := x8 } x1).off)), (.b ((Go.Proofs.Ythgagehgiooklaa.G.Mem.feM { n := n13, g := g13, h := h13, off := x5, burns := x6, left := x7, steps := x8 } x1).burns)), (.i ((Go.Proofs.Ythgagehgiooklaa.G.Mem.feM { n := n13, g := g13, h := h13, off := x5, burns := x6, left := x7, steps := x8 } x1).left)), (.i ((Go.Proofs.Ythgagehgiooklaa.G.Mem.feM { n := n13, g := g13, h := h13, off := x5, burns := x6, left := x7, steps := x8 } x1).steps)), (.b ((Go.Proofs.Ythgagehgiooklaa.G.RMem.feM { n := n14, S := g14, k := n15, G := g15, L := h15, off := x9, left := x10, count := x11 } x1).off)), (.i ((Go.Proofs.Ythgagehgiooklaa.G.RMem.feM { n := n14, S := g14, k := n15, G := g15, L := h15, off := x9, left := x10, count := x11 } x1).left)), (.i ((Go.Proofs.Ythgagehgiooklaa.G.RMem.feM { n := n14, S := g14, k := n15, G := g15, L := h15, off := x9, left := x10, count := x11 } x1).count)), (.q ((Go.Proofs.Ythgagehgiooklaa.G.Mem.feM { n := n13, g := g13, h := h13, off := x5, burns := x6, left := x7, steps := x8 } x1).n) ((Go.Proofs.Ythgagehgiooklaa.G.Mem.feM { n := n13, g := g13, h := h13, off := x5, burns := x6, left := x7, steps := x8 } x1).g) ((16 : Nat)) ((2 : Nat)) ((Go.Proofs.Ythgagehgiooklaa.G.Mem.feM { n := n13, g := g13, h := h13, off := x5, burns := x6, left := x7, steps := x8 } x1).h)), (.r ((Go.Proofs.Ythgagehgiooklaa.G.RMem.feM { n := n14, S := g14, k := n15, G := g15, L := h15, off := x9, left := x10, count := x11 } x1).n) ((Go.Proofs.Ythgagehgiooklaa.G.RMem.feM { n := n14, S := g14, k := n15, G := g15, L := h15, off := x9, left := x10, count := x11 } x1).S)), (.q ((Go.Proofs.Ythgagehgiooklaa.G.RMem.feM { n := n14, S := g14, k := n15, G := g15, L := h15, off := x9, left := x10, count := x11 } x1).k) ((Go.Proofs.Ythgagehgiooklaa.G.RMem.feM { n := n14, S := g14, k := n15, G := g15, L := h15, off := x9, left := x10, count := x11 } x1).G) ((0 : Nat)) ((10 : Nat)) ((Go.Proofs.Ythgagehgiooklaa.G.RMem.feM { n := n14, S := g14, k := n15, G := g15, L := h15, off := x9, left := x10, count := x11 } x1).L))])
 (.no))
 (.no))
 (.br 63 (Go.Proofs.Ythgagehgiooklaa.G.r_kind_0 x0 (12 : Int) == (7 : Int))
 (.br 0 (Go.Proofs.Ythgagehgiooklaa.G.pdec (Go.Proofs.Ythgagehgiooklaa.G.Mem.Ok (900000 : Int) { n := n13, g := g13, h := h13, off := x5, burns := x6, left := x7, steps := x8 }))
 (.br 0 (Go.Proofs.Ythgagehgiooklaa.G.pdec (Go.Proofs.Ythgagehgiooklaa.G.RMem.Ok (900000 : Int) { n := n14, S := g14, k := n15, G := g15, L := h15, off := x9, left := x10, count := x11 }))
 (.ok [(.b (Go.Proofs.Ythgagehgiooklaa.G.Mem.evC { n := n13, g := g13, h := h13, off := x5, burns := x6, left := x7, steps := x8 } x2 x3 == Go.Proofs.Ythgagehgiooklaa.G.RMem.evC { n := n14, S := g14, k := n15, G := g15, L := h15, off := x9, left := x10, count := x11 } x2 x3)), (.b ((Go.Proofs.Ythgagehgiooklaa.G.Mem.evM { n := n13, g := g13, h := h13, off := x5, burns := x6, left := x7, steps := x8 } x2 x3).off)), (.b ((Go.Proofs.Ythgagehgiooklaa.G.Mem.evM { n := n13, g := g13, h := h13, off := x5, burns := x6, left := x7, steps := x8 } x2 x3).burns)), (.i ((Go.Proofs.Ythgagehgiooklaa.G.Mem.evM { n := n13, g := g13, h := h13, off := x5, burns := x6, left := x7, steps := x8 } x2 x3).left)), (.i ((Go.Proofs.Ythgagehgiooklaa.G.Mem.evM { n := n13, g := g13, h := h13, off := x5, burns := x6, left := x7, steps := x8 } x2 x3).steps)), (.b ((Go.Proofs.Ythgagehgiooklaa.G.RMem.evM { n := n14, S := g14, k := n15, G := g15, L := h15, off := x9, left := x10, count := x11 } x2 x3).off)), (.i ((Go.Proofs.Ythgagehgiooklaa.G.RMem.evM { n := n14, S := g14, k := n15, G := g15, L := h15, off := x9, left := x10, count := x11 } x2 x3).left)), (.i ((Go.Proofs.Ythgagehgiooklaa.G.RMem.evM { n := n14, S := g14, k := n15, G := g15, L := h15, off := x9, left := x10, count := x11 } x2 x3).count)), (.q ((Go.Proofs.Ythgagehgiooklaa.G.Mem.evM { n := n13, g := g13, h := h13, off := x5, burns := x6, left := x7, steps := x8 } x2 x3).n) ((Go.Proofs.Ythgagehgiooklaa.G.Mem.evM { n := n13, g := g13, h := h13, off := x5, burns := x6, left := x7, steps := x8 } x2 x3).g) ((16 : Nat)) ((2 : Nat)) ((Go.Proofs.Ythgagehgiooklaa.G.Mem.evM { n := n13, g := g13, h := h13, off := x5, burns := x6, left := x7, steps := x8 } x2 x3).h)), (.r ((Go.Proofs.Ythgagehgiooklaa.G.RMem.evM { n := n14, S := g14, k := n15, G := g15, L := h15, off := x9, left := x10, count := x11 } x2 x3).n) ((Go.Proofs.Ythgagehgiooklaa.G.RMem.evM { n := n14, S := g14, k := n15, G := g15, L := h15, off := x9, left := x10, count := x11 } x2 x3).S)), (.q ((Go.Proofs.Ythgagehgiooklaa.G.RMem.evM { n := n14, S := g14, k := n15, G := g15, L := h15, off := x9, left := x10, count := x11 } x2 x3).k) ((Go.Proofs.Ythgagehgiooklaa.G.RMem.evM { n := n14, S := g14, k := n15, G := g15, L := h15, off := x9, left := x10, count := x11 } x2 x3).G) ((0 : Nat)) ((10 : Nat)) ((Go.Proofs.Ythgagehgiooklaa.G.RMem.evM { n := n14, S := g14, k := n15, G := g15, L := h15, off := x9, left := x10, count := x11 } x2 x3).L))])
 (.no))
 (.no))
 (.br 78 (Go.Proofs.Ythgagehgiooklaa.G.r_kind_0 x0 (12 : Int) == (8 : Int))
 (.br 0 (Go.Proofs.Ythgagehgiooklaa.G.pdec (Go.Proofs.Ythgagehgiooklaa.G.RMem.Ok (900000 : Int) (Go.Proofs.Ythgagehgiooklaa.G.RMem.fuM { n := n14, S := g14, k := n15, G := g15, L := h15, off := x9, left := x10, count := x11 } x3)))
 (.br 115 ((does_c0 x2 x3 x5 x6 x7 x8 x9 x10 x11 n13 g13 h13 n14 g14 n15 g15 h15))
 (.ok [(.b (Go.Proofs.Ythgagehgiooklaa.G.Mem.ldC (Go.Proofs.Ythgagehgiooklaa.G.Mem.fuM { n := n13, g := g13, h := h13, off := x5, burns := x6, left := x7, steps := x8 } x3) x2 == Go.Proofs.Ythgagehgiooklaa.G.RMem.ldC (Go.Proofs.Ythgagehgiooklaa.G.RMem.fuM { n := n14, S := g14, k := n15, G := g15, L := h15, off := x9, left := x10, count := x11 } x3) x2)), (.b ((Go.Proofs.Ythgagehgiooklaa.G.Mem.fuM { n := n13, g := g13, h := h13, off := x5, burns := x6, left := x7, steps := x8 } x3).off)), (.b ((Go.Proofs.Ythgagehgiooklaa.G.Mem.fuM { n := n13, g := g13, h := h13, off := x5, burns := x6, left := x7, steps := x8 } x3).burns)), (.i ((Go.Proofs.Ythgagehgiooklaa.G.Mem.fuM { n := n13, g := g13, h := h13, off := x5, burns := x6, left := x7, steps := x8 } x3).left)), (.i ((Go.Proofs.Ythgagehgiooklaa.G.Mem.fuM { n := n13, g := g13, h := h13, off := x5, burns := x6, left := x7, steps := x8 } x3).steps)), (.b ((Go.Proofs.Ythgagehgiooklaa.G.RMem.fuM { n := n14, S := g14, k := n15, G := g15, L := h15, off := x9, left := x10, count := x11 } x3).off)), (.i ((Go.Proofs.Ythgagehgiooklaa.G.RMem.fuM { n := n14, S := g14, k := n15, G := g15, L := h15, off := x9, left := x10, count := x11 } x3).left)), (.i ((Go.Proofs.Ythgagehgiooklaa.G.RMem.fuM { n := n14, S := g14, k := n15, G := g15, L := h15, off := x9, left := x10, count := x11 } x3).count)), (.q ((Go.Proofs.Ythgagehgiooklaa.G.Mem.fuM { n := n13, g := g13, h := h13, off := x5, burns := x6, left := x7, steps := x8 } x3).n) ((Go.Proofs.Ythgagehgiooklaa.G.Mem.fuM { n := n13, g := g13, h := h13, off := x5, burns := x6, left := x7, steps := x8 } x3).g) ((16 : Nat)) ((2 : Nat)) ((Go.Proofs.Ythgagehgiooklaa.G.Mem.fuM { n := n13, g := g13, h := h13, off := x5, burns := x6, left := x7, steps := x8 } x3).h)), (.r ((Go.Proofs.Ythgagehgiooklaa.G.RMem.fuM { n := n14, S := g14, k := n15, G := g15, L := h15, off := x9, left := x10, count := x11 } x3).n) ((Go.Proofs.Ythgagehgiooklaa.G.RMem.fuM { n := n14, S := g14, k := n15, G := g15, L := h15, off := x9, left := x10, count := x11 } x3).S)), (.q ((Go.Proofs.Ythgagehgiooklaa.G.RMem.fuM { n := n14, S := g14, k := n15, G := g15, L := h15, off := x9, left := x10, count := x11 } x3).k) ((Go.Proofs.Ythgagehgiooklaa.G.RMem.fuM { n := n14, S := g14, k := n15, G := g15, L := h15, off := x9, left := x10, count := x11 } x3).G) ((0 : Nat)) ((10 : Nat)) ((Go.Proofs.Ythgagehgiooklaa.G.RMem.fuM { n := n14, S := g14, k := n15, G := g15, L := h15, off := x9, left := x10, count := x11 } x3).L))])
 (.ok [(.b (Bool.false)), (.b ((Go.Proofs.Ythgagehgiooklaa.G.Mem.fuM { n := n13, g := g13, h := h13, off := x5, burns := x6, left := x7, steps := x8 } x3).off)), (.b ((Go.Proofs.Ythgagehgiooklaa.G.Mem.fuM { n := n13, g := g13, h := h13, off := x5, burns := x6, left := x7, steps := x8 } x3).burns)), (.i ((Go.Proofs.Ythgagehgiooklaa.G.Mem.fuM { n := n13, g := g13, h := h13, off := x5, burns := x6, left := x7, steps := x8 } x3).left)), (.i ((Go.Proofs.Ythgagehgiooklaa.G.Mem.fuM { n := n13, g := g13, h := h13, off := x5, burns := x6, left := x7, steps := x8 } x3).steps)), (.b ((Go.Proofs.Ythgagehgiooklaa.G.RMem.fuM { n := n14, S := g14, k := n15, G := g15, L := h15, off := x9, left := x10, count := x11 } x3).off)), (.i ((Go.Proofs.Ythgagehgiooklaa.G.RMem.fuM { n := n14, S := g14, k := n15, G := g15, L := h15, off := x9, left := x10, count := x11 } x3).left)), (.i ((Go.Proofs.Ythgagehgiooklaa.G.RMem.fuM { n := n14, S := g14, k := n15, G := g15, L := h15, off := x9, left := x10, count := x11 } x3).count)), (.q ((Go.Proofs.Ythgagehgiooklaa.G.Mem.fuM { n := n13, g := g13, h := h13, off := x5, burns := x6, left := x7, steps := x8 } x3).n) ((Go.Proofs.Ythgagehgiooklaa.G.Mem.fuM { n := n13, g := g13, h := h13, off := x5, burns := x6, left := x7, steps := x8 } x3).g) ((16 : Nat)) ((2 : Nat)) ((Go.Proofs.Ythgagehgiooklaa.G.Mem.fuM { n := n13, g := g13, h := h13, off := x5, burns := x6, left := x7, steps := x8 } x3).h)), (.r ((Go.Proofs.Ythgagehgiooklaa.G.RMem.fuM { n := n14, S := g14, k := n15, G := g15, L := h15, off := x9, left := x10, count := x11 } x3).n) ((Go.Proofs.Ythgagehgiooklaa.G.RMem.fuM { n := n14, S := g14, k := n15, G := g15, L := h15, off := x9, left := x10, count := x11 } x3).S)), (.q ((Go.Proofs.Ythgagehgiooklaa.G.RMem.fuM { n := n14, S := g14, k := n15, G := g15, L := h15, off := x9, left := x10, count := x11 } x3).k) ((Go.Proofs.Ythgagehgiooklaa.G.RMem.fuM { n := n14, S := g14, k := n15, G := g15, L := h15, off := x9, left := x10, count := x11 } x3).G) ((0 : Nat)) ((10 : Nat)) ((Go.Proofs.Ythgagehgiooklaa.G.RMem.fuM { n := n14, S := g14, k := n15, G := g15, L := h15, off := x9, left := x10, count := x11 } x3).L))]))
 (.no))
 (.br 88 (Go.Proofs.Ythgagehgiooklaa.G.r_kind_0 x0 (12 : Int) == (9 : Int))
 (.br 0 (Go.Proofs.Ythgagehgiooklaa.G.pdec (Go.Proofs.Ythgagehgiooklaa.G.Mem.Ok (900000 : Int) { n := n13, g := g13, h := h13, off := x5, burns := x6, left := x7, steps := x8 }))
 (.br 0 (Go.Proofs.Ythgagehgiooklaa.G.pdec (Go.Proofs.Ythgagehgiooklaa.G.KeepOk (fun (j : Nat) => g12 ((0 : Nat) + j) (0 : Nat)) n12))
 (.br 0 (Go.Proofs.Ythgagehgiooklaa.G.pdec (Go.Proofs.Ythgagehgiooklaa.G.RMem.Ok (900000 : Int) { n := n14, S := g14, k := n15, G := g15, L := h15, off := x9, left := x10, count := x11 }))
 (.br 0 (Go.Proofs.Ythgagehgiooklaa.G.pdec (Go.Proofs.Ythgagehgiooklaa.G.KeepOk (fun (j : Nat) => g12 ((0 : Nat) + j) (0 : Nat)) n12))
 (.br 0 (Go.Proofs.Ythgagehgiooklaa.G.pdec (Go.Proofs.Ythgagehgiooklaa.G.RMem.Ok (900000 : Int) (Go.Proofs.Ythgagehgiooklaa.G.RMem.crM { n := n14, S := g14, k := n15, G := g15, L := h15, off := x9, left := x10, count := x11 } (fun (j : Nat) => g12 ((0 : Nat) + j) (0 : Nat)) n12)))
 (.br 115 ((does_c5 x2 x5 x6 x7 x8 x9 x10 x11 n12 g12 n13 g13 h13 n14 g14 n15 g15 h15))
 (.ok [(.b (Go.Proofs.Ythgagehgiooklaa.G.Mem.ldC (Go.Proofs.Ythgagehgiooklaa.G.Mem.crM { n := n13, g := g13, h := h13, off := x5, burns := x6, left := x7, steps := x8 } (fun (j : Nat) => g12 ((0 : Nat) + j) (0 : Nat)) n12) x2 == Go.Proofs.Ythgagehgiooklaa.G.RMem.ldC (Go.Proofs.Ythgagehgiooklaa.G.RMem.crM { n := n14, S := g14, k := n15, G := g15, L := h15, off := x9, left := x10, count := x11 } (fun (j : Nat) => g12 ((0 : Nat) + j) (0 : Nat)) n12) x2)), (.b ((Go.Proofs.Ythgagehgiooklaa.G.Mem.crM { n := n13, g := g13, h := h13, off := x5, burns := x6, left := x7, steps := x8 } (fun (j : Nat) => g12 ((0 : Nat) + j) (0 : Nat)) n12).off)), (.b ((Go.Proofs.Ythgagehgiooklaa.G.Mem.crM { n := n13, g := g13, h := h13, off := x5, burns := x6, left := x7, steps := x8 } (fun (j : Nat) => g12 ((0 : Nat) + j) (0 : Nat)) n12).burns)), (.i ((Go.Proofs.Ythgagehgiooklaa.G.Mem.crM { n := n13, g := g13, h := h13, off := x5, burns := x6, left := x7, steps := x8 } (fun (j : Nat) => g12 ((0 : Nat) + j) (0 : Nat)) n12).left)), (.i ((Go.Proofs.Ythgagehgiooklaa.G.Mem.crM { n := n13, g := g13, h := h13, off := x5, burns := x6, left := x7, steps := x8 } (fun (j : Nat) => g12 ((0 : Nat) + j) (0 : Nat)) n12).steps)), (.b ((Go.Proofs.Ythgagehgiooklaa.G.RMem.crM { n := n14, S := g14, k := n15, G := g15, L := h15, off := x9, left := x10, count := x11 } (fun (j : Nat) => g12 ((0 : Nat) + j) (0 : Nat)) n12).off)), (.i ((Go.Proofs.Ythgagehgiooklaa.G.RMem.crM { n := n14, S := g14, k := n15, G := g15, L := h15, off := x9, left := x10, count := x11 } (fun (j : Nat) => g12 ((0 : Nat) + j) (0 : Nat)) n12).left)), (.i ((Go.Proofs.Ythgagehgiooklaa.G.RMem.crM { n := n14, S := g14, k := n15, G := g15, L := h15, off := x9, left := x10, count := x11 } (fun (j : Nat) => g12 ((0 : Nat) + j) (0 : Nat)) n12).count)), (.q ((Go.Proofs.Ythgagehgiooklaa.G.Mem.crM { n := n13, g := g13, h := h13, off := x5, burns := x6, left := x7, steps := x8 } (fun (j : Nat) => g12 ((0 : Nat) + j) (0 : Nat)) n12).n) ((Go.Proofs.Ythgagehgiooklaa.G.Mem.crM { n := n13, g := g13, h := h13, off := x5, burns := x6, left := x7, steps := x8 } (fun (j : Nat) => g12 ((0 : Nat) + j) (0 : Nat)) n12).g) ((16 : Nat)) ((2 : Nat)) ((Go.Proofs.Ythgagehgiooklaa.G.Mem.crM { n := n13, g := g13, h := h13, off := x5, burns := x6, left := x7, steps := x8 } (fun (j : Nat) => g12 ((0 : Nat) + j) (0 : Nat)) n12).h)), (.r ((Go.Proofs.Ythgagehgiooklaa.G.RMem.crM { n := n14, S := g14, k := n15, G := g15, L := h15, off := x9, left := x10, count := x11 } (fun (j : Nat) => g12 ((0 : Nat) + j) (0 : Nat)) n12).n) ((Go.Proofs.Ythgagehgiooklaa.G.RMem.crM { n := n14, S := g14, k := n15, G := g15, L := h15, off := x9, left := x10, count := x11 } (fun (j : Nat) => g12 ((0 : Nat) + j) (0 : Nat)) n12).S)), (.q ((Go.Proofs.Ythgagehgiooklaa.G.RMem.crM { n := n14, S := g14, k := n15, G := g15, L := h15, off := x9, left := x10, count := x11 } (fun (j : Nat) => g12 ((0 : Nat) + j) (0 : Nat)) n12).k) ((Go.Proofs.Ythgagehgiooklaa.G.RMem.crM { n := n14, S := g14, k := n15, G := g15, L := h15, off := x9, left := x10, count := x11 } (fun (j : Nat) => g12 ((0 : Nat) + j) (0 : Nat)) n12).G) ((0 : Nat)) ((10 : Nat)) ((Go.Proofs.Ythgagehgiooklaa.G.RMem.crM { n := n14, S := g14, k := n15, G := g15, L := h15, off := x9, left := x10, count := x11 } (fun (j : Nat) => g12 ((0 : Nat) + j) (0 : Nat)) n12).L))])
 (.ok [(.b (Bool.false)), (.b ((Go.Proofs.Ythgagehgiooklaa.G.Mem.crM { n := n13, g := g13, h := h13, off := x5, burns := x6, left := x7, steps := x8 } (fun (j : Nat) => g12 ((0 : Nat) + j) (0 : Nat)) n12).off)), (.b ((Go.Proofs.Ythgagehgiooklaa.G.Mem.crM { n := n13, g := g13, h := h13, off := x5, burns := x6, left := x7, steps := x8 } (fun (j : Nat) => g12 ((0 : Nat) + j) (0 : Nat)) n12).burns)), (.i ((Go.Proofs.Ythgagehgiooklaa.G.Mem.crM { n := n13, g := g13, h := h13, off := x5, burns := x6, left := x7, steps := x8 } (fun (j : Nat) => g12 ((0 : Nat) + j) (0 : Nat)) n12).left)), (.i ((Go.Proofs.Ythgagehgiooklaa.G.Mem.crM { n := n13, g := g13, h := h13, off := x5, burns := x6, left := x7, steps := x8 } (fun (j : Nat) => g12 ((0 : Nat) + j) (0 : Nat)) n12).steps)), (.b ((Go.Proofs.Ythgagehgiooklaa.G.RMem.crM { n := n14, S := g14, k := n15, G := g15, L := h15, off := x9, left := x10, count := x11 } (fun (j : Nat) => g12 ((0 : Nat) + j) (0 : Nat)) n12).off)), (.i ((Go.Proofs.Ythgagehgiooklaa.G.RMem.crM { n := n14, S := g14, k := n15, G := g15, L := h15, off := x9, left := x10, count := x11 } (fun (j : Nat) => g12 ((0 : Nat) + j) (0 : Nat)) n12).left)), (.i ((Go.Proofs.Ythgagehgiooklaa.G.RMem.crM { n := n14, S := g14, k := n15, G := g15, L := h15, off := x9, left := x10, count := x11 } (fun (j : Nat) => g12 ((0 : Nat) + j) (0 : Nat)) n12).count)), (.q ((Go.Proofs.Ythgagehgiooklaa.G.Mem.crM { n := n13, g := g13, h := h13, off := x5, burns := x6, left := x7, steps := x8 } (fun (j : Nat) => g12 ((0 : Nat) + j) (0 : Nat)) n12).n) ((Go.Proofs.Ythgagehgiooklaa.G.Mem.crM { n := n13, g := g13, h := h13, off := x5, burns := x6, left := x7, steps := x8 } (fun (j : Nat) => g12 ((0 : Nat) + j) (0 : Nat)) n12).g) ((16 : Nat)) ((2 : Nat)) ((Go.Proofs.Ythgagehgiooklaa.G.Mem.crM { n := n13, g := g13, h := h13, off := x5, burns := x6, left := x7, steps := x8 } (fun (j : Nat) => g12 ((0 : Nat) + j) (0 : Nat)) n12).h)), (.r ((Go.Proofs.Ythgagehgiooklaa.G.RMem.crM { n := n14, S := g14, k := n15, G := g15, L := h15, off := x9, left := x10, count := x11 } (fun (j : Nat) => g12 ((0 : Nat) + j) (0 : Nat)) n12).n) ((Go.Proofs.Ythgagehgiooklaa.G.RMem.crM { n := n14, S := g14, k := n15, G := g15, L := h15, off := x9, left := x10, count := x11 } (fun (j : Nat) => g12 ((0 : Nat) + j) (0 : Nat)) n12).S)), (.q ((Go.Proofs.Ythgagehgiooklaa.G.RMem.crM { n := n14, S := g14, k := n15, G := g15, L := h15, off := x9, left := x10, count := x11 } (fun (j : Nat) => g12 ((0 : Nat) + j) (0 : Nat)) n12).k) ((Go.Proofs.Ythgagehgiooklaa.G.RMem.crM { n := n14, S := g14, k := n15, G := g15, L := h15, off := x9, left := x10, count := x11 } (fun (j : Nat) => g12 ((0 : Nat) + j) (0 : Nat)) n12).G) ((0 : Nat)) ((10 : Nat)) ((Go.Proofs.Ythgagehgiooklaa.G.RMem.crM { n := n14, S := g14, k := n15, G := g15, L := h15, off := x9, left := x10, count := x11 } (fun (j : Nat) => g12 ((0 : Nat) + j) (0 : Nat)) n12).L))]))
 (.no))
 (.no))
 (.no))
 (.no))
 (.no))
 (.br 0 (Go.Proofs.Ythgagehgiooklaa.G.pdec (Go.Proofs.Ythgagehgiooklaa.G.RMem.Ok (900000 : Int) { n := n14, S := g14, k := n15, G := g15, L := h15, off := x9, left := x10, count := x11 }))
 (.br 115 (Go.Proofs.Ythgagehgiooklaa.G.Mem.ldW { n := n13, g := g13, h := h13, off := x5, burns := x6, left := x7, steps := x8 } x2 (0 : Nat) == Go.Proofs.Ythgagehgiooklaa.G.RMem.ldW { n := n14, S := g14, k := n15, G := g15, L := h15, off := x9, left := x10, count := x11 } x2 (0 : Nat) && (Go.Proofs.Ythgagehgiooklaa.G.Mem.ldW { n := n13, g := g13, h := h13, off := x5, burns := x6, left := x7, steps := x8 } x2 (1 : Nat) == Go.Proofs.Ythgagehgiooklaa.G.RMem.ldW { n := n14, S := g14, k := n15, G := g15, L := h15, off := x9, left := x10, count := x11 } x2 (1 : Nat) && (Go.Proofs.Ythgagehgiooklaa.G.Mem.ldW { n := n13, g := g13, h := h13, off := x5, burns := x6, left := x7, steps := x8 } x2 (2 : Nat) == Go.Proofs.Ythgagehgiooklaa.G.RMem.ldW { n := n14, S := g14, k := n15, G := g15, L := h15, off := x9, left := x10, count := x11 } x2 (2 : Nat) && (Go.Proofs.Ythgagehgiooklaa.G.Mem.ldW { n := n13, g := g13, h := h13, off := x5, burns := x6, left := x7, steps := x8 } x2 (3 : Nat) == Go.Proofs.Ythgagehgiooklaa.G.RMem.ldW { n := n14, S := g14, k := n15, G := g15, L := h15, off := x9, left := x10, count := x11 } x2 (3 : Nat) && (Go.Proofs.Ythgagehgiooklaa.G.Mem.ldW { n := n13, g := g13, h := h13, off := x5, burns := x6, left := x7, steps := x8 } x2 (4 : Nat) == Go.Proofs.Ythgagehgiooklaa.G.RMem.ldW { n := n14, S := g14, k := n15, G := g15, L := h15, off := x9, left := x10, count := x11 } x2 (4 : Nat) && (Go.Proofs.Ythgagehgiooklaa.G.Mem.ldW { n := n13, g := g13, h := h13, off := x5, burns := x6, left := x7, steps := x8 } x2 (5 : Nat) == Go.Proofs.Ythgagehgiooklaa.G.RMem.ldW { n := n14, S := g14, k := n15, G := g15, L := h15, off := x9, left := x10, count := x11 } x2 (5 : Nat) && (Go.Proofs.Ythgagehgiooklaa.G.Mem.ldW { n := n13, g := g13, h := h13, off := x5, burns := x6, left := x7, steps := x8 } x2 (6 : Nat) == Go.Proofs.Ythgagehgiooklaa.G.RMem.ldW { n := n14, S := g14, k := n15, G := g15, L := h15, off := x9, left := x10, count := x11 } x2 (6 : Nat) && (Go.Proofs.Ythgagehgiooklaa.G.Mem.ldW { n := n13, g := g13, h := h13, off := x5, burns := x6, left := x7, steps := x8 } x2 (7 : Nat) == Go.Proofs.Ythgagehgiooklaa.G.RMem.ldW { n := n14, S := g14, k := n15, G := g15, L := h15, off := x9, left := x10, count := x11 } x2 (7 : Nat) && Bool.true))))))))
 (.ok [(.b (Go.Proofs.Ythgagehgiooklaa.G.Mem.ldC { n := n13, g := g13, h := h13, off := x5, burns := x6, left := x7, steps := x8 } x2 == Go.Proofs.Ythgagehgiooklaa.G.RMem.ldC { n := n14, S := g14, k := n15, G := g15, L := h15, off := x9, left := x10, count := x11 } x2)), (.b (x5)), (.b (x6)), (.i (x7)), (.i (x8)), (.b (x9)), (.i (x10)), (.i (x11)), (.q (n13) (g13) ((16 : Nat)) ((2 : Nat)) (h13)), (.r (n14) (g14)), (.q (n15) (g15) ((0 : Nat)) ((10 : Nat)) (h15))])
 (.ok [(.b (Bool.false)), (.b (x5)), (.b (x6)), (.i (x7)), (.i (x8)), (.b (x9)), (.i (x10)), (.i (x11)), (.q (n13) (g13) ((16 : Nat)) ((2 : Nat)) (h13)), (.r (n14) (g14)), (.q (n15) (g15) ((0 : Nat)) ((10 : Nat)) (h15))]))
 (.no))))))))))))
 (.no)
noncomputable def y_does : Nat → Option Nat := (syOf3 [14, 37, 52, 63, 78, 115, 88] [] [])
noncomputable def TL_does (l : List At) : Tr (List At) := T_does (aI l 0) (aI l 1) (aI l 2) (aI l 3) (aI l 4) (aB l 5) (aB l 6) (aI l 7) (aI l 8) (aB l 9) (aI l 10) (aI l 11) (aRn l 12) (aRg l 12) (aRn l 13) (aRg l 13) (aMh l 13 16 2) (aRn l 14) (aRg l 14) (aRn l 15) (aRg l 15) (aMh l 15 0 10)
theorem e_does (l : List At) : (call Try.prog Γ_K4 y_does noLoops 100 Try.f29 (mkV ish_does l) (mkH ish_does l)).bind (leafO 8 osh_does) = TL_does l := by kernel_rfl
noncomputable def F_does : List At → Tr (List At) := TL_does
theorem s_does : SpecF Try.prog 29 (.eff (locF ish_does osh_does F_does)) :=
  spec_loc (sy := y_does) (fuel := 100) (Lp := noLoops) o_K4 mixed ⟨Try.func29, by kernel_rfl, by kernel_rfl⟩ ish_does osh_does (noLoops_ok _) (hT_ways e_does)
noncomputable def Γ_does : Specs := upd Γ_K4 29 (.eff (locF ish_does osh_does F_does))
theorem o_does : SpecOK Try.prog Γ_does := SpecOK.upd o_K4 s_does

end Go.Proofs.Ythgagehgiooklaa.G
end

/-
  The memory and the reference's go side by side.
-/
section
namespace Go.Proofs.Ythgagehgiooklaa.G
open Go Go.AM Go.Proofs

theorem lastF_congr {L L' : Nat → Int} {co : Nat} : ∀ m, (∀ k, k < m → L (k * 10 + (2 + co)) = L' (k * 10 + (2 + co))) → lastF L co m = lastF L' co m
  | 0, _ => rfl
  | m + 1, h => by
    rw [lastF, lastF, h m (by omega), lastF_congr m fun k hk => h k (by omega)]
theorem lastF_shift (L : Nat → Int) (co m : Nat) : ∀ n, lastF (rsL L m) co n = lastF L co (n + m) - m
  | 0 => by
    have := lastF_le L co m
    rw [lastF, Nat.zero_add]
    omega
  | n + 1 => by
    rw [lastF, lastF_shift L co m n, show n + 1 + m = (n + m) + 1 by omega, lastF]
    have e : rsL L m (n * 10 + (2 + co)) = L ((n + m) * 10 + (2 + co)) := congrArg L (by omega)
    rw [e]
    split
    · omega
    · rfl
theorem lastF_all {L : Nat → Int} {co : Nat} : ∀ m, (∀ k, k < m → L (k * 10 + (2 + co)) ≠ 0) → lastF L co m = m
  | 0, _ => rfl
  | m + 1, h => by rw [lastF, if_pos (h m (by omega))]

/-- A row of the memory and a line of the reference. -/
def RowRel (r hr s : Nat → Int) (c : Int) (L : Nat → Int) : Prop :=
  r 16 = c ∧ (∀ w, w < 8 → r (8 + w) = s w) ∧ (∀ k : Nat, (k : Int) < c → hr (k * 2) = L (k * 10) ∧ hr (k * 2 + 1) = L (k * 10 + 1)) ∧ ∀ co, co < 8 → r (17 + co) = (lastF L co c.toNat : Int)

theorem rowRel_st {r hr s L : Nat → Int} {c w v : Int} (h : RowRel r hr s c L) (hc : 0 ≤ c) (hw : 0 ≤ w ∧ w < 8) : RowRel (stR r w.toNat v) (stH hr (r 16).toNat w v) s (c + 1) (rstR L c.toNat w v) := by
  obtain ⟨h1, h2, h3, h4⟩ := h
  subst h1
  refine ⟨if_pos rfl, fun x hx => ?_, fun k hk => ?_, fun co hco => ?_⟩
  · rw [← h2 x hx]
    unfold stR
    rw [if_neg (by omega), if_neg (by omega)]
  · have f1 : rstR L (r 16).toNat w v (k * 10) = if k < (r 16).toNat then L (k * 10) else w := by
      unfold rstR
      by_cases hkn : k < (r 16).toNat
      · rw [if_pos (by omega), if_pos hkn]
      · rw [if_neg (by omega), if_pos (by omega), if_neg hkn]
    have f2 : rstR L (r 16).toNat w v (k * 10 + 1) = if k < (r 16).toNat then L (k * 10 + 1) else v := by
      unfold rstR
      by_cases hkn : k < (r 16).toNat
      · rw [if_pos (by omega), if_pos hkn]
      · rw [if_neg (by omega), if_neg (by omega), if_pos (by omega), if_neg hkn]
    rw [f1, f2]
    unfold stH
    by_cases hkc : k = (r 16).toNat
    · subst hkc
      rw [if_pos rfl, if_neg (Nat.lt_irrefl _), if_neg (by omega), if_pos rfl, if_neg (Nat.lt_irrefl _)]
      exact ⟨rfl, rfl⟩
    · have n1 : ¬ k * 2 = (r 16).toNat * 2 := by omega
      have n2 : ¬ k * 2 = (r 16).toNat * 2 + 1 := by omega
      have n3 : k < (r 16).toNat := by omega
      have n4 : ¬ k * 2 + 1 = (r 16).toNat * 2 := by omega
      have n5 : ¬ k * 2 + 1 = (r 16).toNat * 2 + 1 := by omega
      rw [if_neg n1, if_neg n2, if_neg n4, if_neg n5, if_pos n3, if_pos n3]
      exact h3 k (by omega)
  · have e : stR r w.toNat v (17 + co) = r (17 + co) := by unfold stR; rw [if_neg (by omega), if_neg (by omega)]
    rw [e, h4 co hco, show (r 16 + 1).toNat = (r 16).toNat + 1 by omega, lastF]
    have e2 : rstR L (r 16).toNat w v ((r 16).toNat * 10 + (2 + co)) = 0 := by
      unfold rstR
      rw [if_neg (by omega), if_neg (by omega), if_neg (by omega)]
    rw [if_neg (by rw [e2]; simp)]
    rw [lastF_congr (L := rstR L (r 16).toNat w v) (L' := L)]
    intro k hk
    unfold rstR
    rw [if_pos (by omega)]

theorem rowRel_fl {r hr s L : Nat → Int} {c : Int} {x : Nat} (h : RowRel r hr s c L) (hc : 0 ≤ c) (hx : x < 8) : RowRel (flR r x) hr s c (rflR L c.toNat x) := by
  obtain ⟨h1, h2, h3, h4⟩ := h
  subst h1
  refine ⟨if_neg (by omega), fun w hw => ?_, fun k hk => ?_, fun co hco => ?_⟩
  · rw [← h2 w hw]; exact flR_lo (by omega)
  · unfold rflR
    rw [if_neg (by omega), if_neg (by omega)]
    exact h3 k hk
  · by_cases hcx : co = x
    · subst hcx
      rw [lastF_all _ fun k hk => by
        unfold rflR
        rw [if_pos (by omega)]
        decide]
      unfold flR
      rw [if_pos rfl]
      omega
    · have e : flR r x (17 + co) = r (17 + co) := if_neg (by omega)
      rw [e, h4 co hco]
      congr 1
      refine lastF_congr _ fun k hk => ?_
      unfold rflR
      rw [if_neg (by omega)]

theorem pk_eq {hr L : Nat → Int} {c : Int} (h : ∀ k : Nat, (k : Int) < c → hr (k * 2) = L (k * 10) ∧ hr (k * 2 + 1) = L (k * 10 + 1)) (k : Nat) (hk : (k : Int) < c) : hr (k * 2) = pk L (k * 2) ∧ hr (k * 2 + 1) = pk L (k * 2 + 1) := by
  rw [pk0, pk1]; exact h k hk

theorem rowRel_su {r hr s L : Nat → Int} {c : Int} {m : Nat} (h : RowRel r hr s c L) (hm : (m : Int) ≤ c) : RowRel (rowS r hr m) (hS hr m) (rsS s L m) (c - m) (rsL L m) := by
  obtain ⟨h1, h2, h3, h4⟩ := h
  subst h1
  refine ⟨rowS16 r hr m, fun w hw => ?_, fun k hk => ?_, fun co hco => ?_⟩
  · have e : rowS r hr m (8 + w) = apF (sur r) hr 0 m w := rowS_sur hw
    rw [e]
    unfold rsS
    rw [if_pos hw]
    exact apF_pt m 0 _ _ _ _ (h2 w hw) fun k _ hk => pk_eq h3 k (by omega)
  · have := h3 (k + m) (by omega)
    unfold hS rsL
    rw [show k * 2 + 2 * m = (k + m) * 2 by omega, show k * 2 + 1 + 2 * m = (k + m) * 2 + 1 by omega, show k * 10 + 10 * m = (k + m) * 10 by omega, show k * 10 + 1 + 10 * m = (k + m) * 10 + 1 by omega]
    exact this
  · have e : rowS r hr m (17 + co) = if r (17 + co) - m > 0 then r (17 + co) - m else 0 := by
      unfold rowS
      rw [if_neg (by omega), if_pos (by omega)]
    rw [e, h4 co hco, lastF_shift, show (r 16 - (m : Int)).toNat + m = (r 16).toNat by omega]
    split <;> omega

theorem rowRel_cr {r hr s L : Nat → Int} {c : Int} {m : Nat} (h : RowRel r hr s c L) (hm : (m : Int) ≤ c) (L' : Nat → Int) : RowRel (crR r hr m) hr (rsS s L m) 0 L' := by
  obtain ⟨h1, h2, h3, h4⟩ := h
  subst h1
  refine ⟨rfl, fun w hw => ?_, fun k hk => by omega, fun co hco => ?_⟩
  · have e : crR r hr m (8 + w) = apF (sur r) hr 0 m w := crR_sur hw
    rw [e]
    unfold rsS
    rw [if_pos hw]
    exact apF_pt m 0 _ _ _ _ (h2 w hw) fun k _ hk => pk_eq h3 k (by omega)
  · unfold crR
    rw [if_neg (by omega), if_neg (by omega), if_pos (by omega)]
    rfl

/-- The two memories stand alike. -/
structure Side (m : Mem) (y : RMem) : Prop where
  n : y.n = m.n
  off : y.off = m.off
  burns : m.burns = decide (0 ≤ y.left)
  left : m.burns = true → m.left = y.left
  steps : y.count = m.steps
  row : ∀ i, i < m.n → RowRel (m.g i) (m.h i) (y.S i) (y.G i 0) (y.L i)

section
variable {m : Mem} {y : RMem} {K K' : Int}

theorem Side.po (h : Side m y) : y.po = m.po := by
  unfold RMem.po Mem.po rpoB offB
  rw [h.off]
  cases hb : m.burns with
  | true => rw [h.left hb]; rfl
  | false =>
    have := h.burns
    rw [hb] at this
    have hl : ¬ 0 ≤ y.left := by simpa using this.symm
    rw [show (y.left == 0) = false by simp; omega]
    rfl
theorem Side.cod (h : Side m y) : y.cod = m.cod := by
  have := h.po
  unfold RMem.po Mem.po at this
  unfold RMem.cod Mem.cod rcodI codeI
  rw [this]
theorem Side.stp (h : Side m y) : Side m.stp y.stp := by
  have hpo := h.po
  have hpo1 : rpoB y.off y.left = m.po := hpo
  have hpo2 : offB m.off m.burns m.left = m.po := rfl
  refine ⟨h.n, h.po, ?_, ?_, ?_, h.row⟩
  · show m.burns = decide (0 ≤ rleftI y.off y.left)
    unfold rleftI
    rw [hpo1]
    cases hp : m.po with
    | true => exact h.burns
    | false =>
      show m.burns = decide (0 ≤ bif decide (y.left > 0) then y.left - 1 else y.left)
      by_cases hl : y.left > 0
      · rw [decide_eq_true hl, h.burns]
        show decide (0 ≤ y.left) = decide (0 ≤ y.left - 1)
        rw [decide_eq_true (by omega), decide_eq_true (by omega)]
      · rw [decide_eq_false hl]; exact h.burns
  · intro hb
    have hb : m.burns = true := hb
    show leftI m.off m.burns m.left = rleftI y.off y.left
    unfold leftI rleftI
    rw [hpo1, hpo2, hb]
    have hl := h.left hb
    cases hp : m.po with
    | true => exact hl
    | false =>
      have hnz : m.left ≠ 0 := by
        intro h0
        unfold Mem.po offB at hp
        rw [hb, h0] at hp
        simp at hp
      have h0 : 0 ≤ y.left := by
        have := h.burns
        rw [hb] at this
        simpa using this.symm
      show m.left - 1 = bif decide (y.left > 0) then y.left - 1 else y.left
      rw [decide_eq_true (by omega : y.left > 0), hl]
      rfl
  · show rcntI y.off y.left y.count = stepsI m.off m.burns m.left m.steps
    unfold rcntI stepsI
    rw [hpo1, hpo2, h.steps]
theorem Side.wit {g' h' S' G' L' : Nat → Nat → Int} (h : Side m y) (hr : ∀ i, i < m.n → RowRel (g' i) (h' i) (S' i) (G' i 0) (L' i)) : Side (m.wit g' h') (y.wit S' G' L') := ⟨h.n, h.off, h.burns, h.left, h.steps, hr⟩

theorem Side.is (h : Side m y) (i : Int) : y.is i = !(decide (i < 0) || decide (i ≥ (m.n : Int))) := by
  unfold RMem.is
  rw [h.n]
  by_cases h1 : i < 0
  · rw [decide_eq_true h1, decide_eq_false (by omega : ¬ 0 ≤ i)]; rfl
  · rw [decide_eq_false h1, decide_eq_true (by omega : 0 ≤ i)]
    by_cases h2 : i < (m.n : Int)
    · rw [decide_eq_true h2, decide_eq_false (by omega)]; rfl
    · rw [decide_eq_false h2, decide_eq_true (by omega)]; rfl
theorem Side.bad (h : Side m y) (i w : Int) : y.bad i w = m.bad i w := by
  unfold RMem.bad Mem.bad
  rw [h.is, Bool.not_not]
  rw [show decide (w > 7) = decide (w ≥ 8) by rw [decide_eq_decide]; omega]
theorem corR_corB (c : Int) : corR c = corB c := by
  unfold corR corB
  rw [show decide (c > 7) = decide (c ≥ 8) by rw [decide_eq_decide]; omega]
theorem Side.fbad (h : Side m y) (c i : Int) : (corR c || !y.is i) = m.bad i c := by
  rw [h.is, Bool.not_not, corR_corB]
  unfold corB Mem.bad
  cases decide (c < 0) <;> cases decide (c ≥ 8) <;> cases decide (i < 0) <;> cases decide (i ≥ (m.n : Int)) <;> rfl
theorem Side.ebad (h : Side m y) (i x : Int) : y.ebad i x = m.ebad i x := by
  unfold RMem.ebad Mem.ebad
  rw [h.is, Bool.not_not]

/-! ### the calls -/

theorem side_stC (h : Side m y) (i w : Int) : y.stC i w = m.stC i w := by unfold RMem.stC Mem.stC; rw [h.bad, h.cod]
theorem side_stM (h : Side m y) (ok : y.Ok K) (i w v : Int) : Side (m.stM i w v) (y.stM i w v) := by
  unfold Mem.stM RMem.stM
  rw [h.bad, h.po]
  cases hb : m.bad i w with
  | true => exact h
  | false =>
    cases m.po with
    | true => exact h.stp
    | false =>
      obtain ⟨h0, h1, h2, h3⟩ := bad_no hb
      refine h.stp.wit fun j hj => ?_
      have hr := h.row j hj
      rw [updG_row]
      by_cases hji : j = i.toNat
      · subst hji
        rw [updR_self, updR_self, updR_self, updR_self, if_pos rfl]
        exact rowRel_st hr (ok.2.2.2 _ (by rw [h.n]; exact hj)).1.1 ⟨h2, h3⟩
      · rw [updR_ne hji, updR_ne hji, updR_ne hji, updR_ne hji]
        exact hr
theorem side_flC (h : Side m y) (c i : Int) : y.flC c i = m.stC i c := by unfold RMem.flC Mem.stC; rw [h.fbad, h.cod]
theorem side_flM (h : Side m y) (ok : y.Ok K) (c i : Int) : Side (m.flM c i) (y.flM c i) := by
  unfold Mem.flM RMem.flM
  rw [h.fbad, h.po]
  cases hb : m.bad i c with
  | true => exact h
  | false =>
    cases m.po with
    | true => exact h.stp
    | false =>
      obtain ⟨h0, h1, h2, h3⟩ := bad_no hb
      refine h.stp.wit fun j hj => ?_
      have hr := h.row j hj
      by_cases hji : j = i.toNat
      · subst hji
        rw [updR_self, updR_self]
        exact rowRel_fl hr (ok.2.2.2 _ (by rw [h.n]; exact hj)).1.1 (by omega)
      · rw [updR_ne hji, updR_ne hji]
        exact hr
theorem side_feC (h : Side m y) (c : Int) : y.feC c = m.feC c := by unfold RMem.feC Mem.feC; rw [corR_corB, h.cod]
theorem side_feM (h : Side m y) (ok : y.Ok K) (c : Int) : Side (m.feM c) (y.feM c) := by
  unfold Mem.feM RMem.feM
  rw [corR_corB, h.po]
  cases hb : corB c with
  | true => exact h
  | false =>
    cases m.po with
    | true => exact h.stp
    | false =>
      have hc := corB_no hb
      refine h.stp.wit fun j hj => ?_
      have hr := h.row j hj
      have hn : j < y.n := by rw [h.n]; exact hj
      have e1 : y.stp.n = y.n := rfl
      have hcnt := (ok.2.2.2 j hn).1.1
      have h4 := hr.2.2.2 c.toNat (by omega)
      have hfk : y.stp.fk c.toNat j = lastF (y.L j) c.toNat (y.G j 0).toNat := rfl
      rw [e1, if_pos ⟨Nat.zero_le _, hn⟩, if_pos ⟨rfl, Nat.zero_le _, hn⟩, if_pos ⟨Nat.zero_le _, hn⟩, hfk]
      change RowRel _ _ (rsS (y.S j) (y.L j) _) (y.G j 0 - _) (rsL (y.L j) _)
      have hle := lastF_le (y.L j) c.toNat (y.G j 0).toNat
      unfold feG feH
      by_cases hp : m.g j (17 + c.toNat) > 0
      · rw [if_pos ⟨Nat.zero_le _, hj, hp⟩, if_pos ⟨Nat.zero_le _, hj, hp⟩, h4, Int.toNat_natCast]
        exact rowRel_su hr (by omega)
      · rw [if_neg (fun hh => hp hh.2.2), if_neg (fun hh => hp hh.2.2)]
        have h0 : lastF (y.L j) c.toNat (y.G j 0).toNat = 0 := by omega
        rw [h0, rsS_zero, rsL_zero]
        simpa using hr
theorem side_evC (h : Side m y) (i x : Int) : y.evC i x = m.evC i x := by unfold RMem.evC Mem.evC; rw [h.ebad, h.off]
theorem side_evM (h : Side m y) (ok : y.Ok K) (i x : Int) : Side (m.evM i x) (y.evM i x) := by
  unfold Mem.evM RMem.evM
  rw [h.ebad, h.off]
  cases hb : m.ebad i x with
  | true => exact h
  | false =>
    cases m.off with
    | true => exact h
    | false =>
      obtain ⟨h0, h1, h2⟩ := ebad_no hb
      refine h.wit fun j hj => ?_
      have hr := h.row j hj
      rw [updG_row]
      by_cases hji : j = i.toNat
      · subst hji
        rw [updR_self, updR_self, updR_self, updR_self, updR_self, if_pos rfl]
        have hcnt := (ok.2.2.2 i.toNat (by rw [h.n]; exact hj)).1.1
        have e : (revK (y.G i.toNat 0) x).toNat = evK (m.g i.toNat) x := by unfold revK evK; rw [hr.1]
        have e2 : revK (y.G i.toNat 0) x = (evK (m.g i.toNat) x : Int) := by
          rw [← e, Int.toNat_of_nonneg]
          unfold revK
          split <;> omega
        rw [e, e2]
        refine rowRel_su hr ?_
        rw [← e2]
        unfold revK
        split <;> omega
      · rw [updR_ne hji, updR_ne hji, updR_ne hji, updR_ne hji, updR_ne hji]
        exact hr
theorem side_fuM (h : Side m y) (x : Int) : Side (m.fuM x) (y.fuM x) := by
  refine ⟨h.n, h.off, ?_, ?_, h.steps, h.row⟩
  · show decide (x ≥ 0) = decide (0 ≤ if -1 > x then -1 else x)
    rw [decide_eq_decide]
    split <;> omega
  · intro hb
    have hb : x ≥ 0 := by simpa [Mem.fuM] using hb
    show x = if -1 > x then -1 else x
    rw [if_neg (by omega)]
theorem cnt_eq {g G : Nat → Nat → Int} {n : Nat} (h : ∀ i, i < n → g i 16 = G i 0) : ∀ d a, a + d ≤ n → cntU g a d = rcnt G a d
  | 0, _, _ => rfl
  | d + 1, a, hd => by rw [cntU, rcnt, h a (by omega), cnt_eq h d (a + 1) (by omega)]
theorem side_crM (h : Side m y) (ok : y.Ok K) (q : Nat → Int) (kn : Nat) : Side (m.crM q kn) (y.crM q kn) := by
  refine ⟨h.n, rfl, rfl, fun hb => (Bool.noConfusion (show false = true from hb)), h.steps, fun i hi => ?_⟩
  have hr := h.row i hi
  have hn : i < y.n := by rw [h.n]; exact hi
  show RowRel (crG m.n m.g m.h q kn 0 i) (m.h i) ((y.crF q kn 0 0).S i) ((y.crF q kn 0 0).G i 0) (y.L i)
  have e1 : (y.crF q kn 0 0).G i 0 = 0 := if_pos ⟨rfl, Nat.zero_le _, hn⟩
  have e2 : (y.crF q kn 0 0).S i = if 0 ≤ i ∧ i < y.n ∧ y.G i 0 > 0 then rsS (y.S i) (y.L i) (crK q kn (0 + rcnt y.G 0 (i - 0)) (y.G i 0)) else y.S i := rfl
  have hcnt := (ok.2.2.2 i hn).1.1
  rw [e1, e2, Nat.zero_add]
  unfold crG
  rw [hr.1]
  by_cases hp : y.G i 0 > 0
  · rw [if_pos ⟨Nat.zero_le _, hi, hp⟩, if_pos ⟨Nat.zero_le _, hn, hp⟩, cnt_eq (g := m.g) (G := y.G) (n := m.n) (fun j hj => (h.row j hj).1) (i - 0) 0 (by have : i < m.n := hi; omega)]
    refine rowRel_cr hr ?_ _
    unfold crK
    have h1 := Int.emod_nonneg (kv q kn (rcnt y.G 0 (i - 0))) (b := y.G i 0 + 1) (by omega)
    have h2 := Int.emod_lt_of_pos (kv q kn (rcnt y.G 0 (i - 0))) (b := y.G i 0 + 1) (by omega)
    omega
  · rw [if_neg (fun hh => hp hh.2.2), if_neg (fun hh => hp hh.2.2)]
    have e0 : y.G i 0 = 0 := by omega
    rw [e0] at hr
    exact hr
theorem side_ldC (h : Side m y) (i : Int) : y.ldC i = m.ldC i := by
  unfold RMem.ldC Mem.ldC
  rw [h.is, h.off, Bool.not_not]
theorem side_ldW (h : Side m y) (ok : y.Ok K) (co : m.Coh) (i : Int) (c : Nat) (hc : c < 8) : y.ldW i c = m.ldW i c := by
  unfold RMem.ldW Mem.ldW
  rw [side_ldC h]
  cases hz : (m.ldC i == 0) with
  | false => rfl
  | true =>
    have hi : 0 ≤ i ∧ i < m.n := by
      have h0 : m.ldC i = 0 := by simpa using hz
      unfold Mem.ldC at h0
      cases hb : (decide (i < 0) || decide (i ≥ (m.n : Int))) with
      | true => rw [hb] at h0; exact absurd (show (1 : Int) = 0 from h0) (by decide)
      | false =>
        simp only [Bool.or_eq_false_iff, decide_eq_false_iff_not] at hb
        omega
    have hr := h.row i.toNat (by omega)
    have hcnt := (ok.2.2.2 i.toNat (by rw [h.n]; omega)).1.1
    show rsS (y.S i.toNat) (y.L i.toNat) (y.G i.toNat 0).toNat c = m.g i.toNat c
    rw [co i.toNat (by omega) c hc, hr.1]
    unfold rsS
    rw [if_pos hc]
    exact (apF_pt _ 0 _ _ _ _ (hr.2.1 c hc) fun k _ hk => pk_eq hr.2.2.1 k (by omega)).symm
theorem side_new (n : Nat) : Side (newM n) (rnewR n fun _ _ => 0) := ⟨rfl, rfl, rfl, fun hb => (Bool.noConfusion (show false = true from hb)), rfl, fun _ _ => ⟨rfl, fun _ _ => rfl, fun _ _ => ⟨rfl, rfl⟩, fun _ _ => rfl⟩⟩
end
end Go.Proofs.Ythgagehgiooklaa.G
end
