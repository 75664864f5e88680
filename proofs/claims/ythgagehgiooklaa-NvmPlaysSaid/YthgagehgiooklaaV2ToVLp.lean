/-
  What is now is what is sure, with the stores: whatever is done.
-/
import Derived.Test.YthgagehgiooklaaG8ToRvS1
import Derived.Test.YthgagehgiooklaaRvR2ToRvPR
import Derived.KernelRfl
section
namespace Go.Proofs.Ythgagehgiooklaa.G
open Go Go.AM Go.Proofs

theorem stM_coh {m : Mem} {i w v K : Int} (h : m.Coh) (ok : m.Ok K) : (m.stM i w v).Coh := by
  intro j hj
  rw [stM_n] at hj
  unfold Mem.stM
  cases hb : m.bad i w with
  | true => exact h j hj
  | false => cases m.po with
    | true => exact h j hj
    | false =>
      obtain ⟨h0, h1, h2, h3⟩ := bad_no hb
      show Coh (updR m.g i.toNat (stR (m.g i.toNat) w.toNat v) j) (updR m.h i.toNat (stH (m.h i.toNat) (m.g i.toNat 16).toNat w v) j)
      by_cases hji : j = i.toNat
      · subst hji
        rw [updR_self, updR_self]
        exact coh_st (h _ hj) (ok.2.2.2.2 _ hj).1.1 ⟨h2, h3⟩
      · rw [updR_ne hji, updR_ne hji]; exact h j hj

theorem flM_coh {m : Mem} {c i : Int} (h : m.Coh) : (m.flM c i).Coh := by
  intro j hj
  rw [flM_n] at hj
  unfold Mem.flM
  cases hb : m.bad i c with
  | true => exact h j hj
  | false => cases m.po with
    | true => exact h j hj
    | false =>
      show Coh (updR m.g i.toNat (flR (m.g i.toNat) c.toNat) j) (m.h j)
      by_cases hji : j = i.toNat
      · subst hji
        rw [updR_self]
        exact coh_fl (h _ hj)
      · rw [updR_ne hji]; exact h j hj

theorem feM_coh {m : Mem} {c K : Int} (h : m.Coh) (ok : m.Ok K) : (m.feM c).Coh := by
  intro j hj
  rw [feM_n] at hj
  unfold Mem.feM
  cases hb : corB c with
  | true => exact h j hj
  | false => cases m.po with
    | true => exact h j hj
    | false =>
      have hc := corB_no hb
      show Coh (feG m.n m.g m.h (17 + c.toNat) 0 j) (feH m.n m.g m.h (17 + c.toNat) 0 j)
      unfold feG feH
      by_cases hp : 0 ≤ j ∧ j < m.n ∧ m.g j (17 + c.toNat) > 0
      · rw [if_pos hp, if_pos hp]
        have := (ok.2.2.2.2 j hj).1.2.2.1 (17 + c.toNat) (by omega) (by omega)
        exact coh_rowS (h j hj) (by omega)
      · rw [if_neg hp, if_neg hp]; exact h j hj

theorem evM_coh {m : Mem} {i x K : Int} (h : m.Coh) (ok : m.Ok K) : (m.evM i x).Coh := by
  intro j hj
  rw [evM_n] at hj
  unfold Mem.evM
  cases hb : m.ebad i x with
  | true => exact h j hj
  | false => cases m.off with
    | true => exact h j hj
    | false =>
      obtain ⟨h0, h1, h2⟩ := ebad_no hb
      show Coh (updR m.g i.toNat (rowS (m.g i.toNat) (m.h i.toNat) (evK (m.g i.toNat) x)) j) (updR m.h i.toNat (hS (m.h i.toNat) (evK (m.g i.toNat) x)) j)
      by_cases hji : j = i.toNat
      · subst hji
        rw [updR_self, updR_self]
        exact coh_rowS (h _ hj) (evK_le (ok.2.2.2.2 _ hj).1.1 h2)
      · rw [updR_ne hji, updR_ne hji]; exact h j hj

theorem crM_coh {m : Mem} {q : Nat → Int} {kn : Nat} (h : m.Coh) : (m.crM q kn).Coh := by
  intro j hj
  have hj : j < m.n := hj
  show Coh (crG m.n m.g m.h q kn 0 j) (m.h j)
  unfold crG
  by_cases hp : 0 ≤ j ∧ j < m.n ∧ m.g j 16 > 0
  · rw [if_pos hp]; exact coh_crR
  · rw [if_neg hp]; exact h j hj

theorem newM_coh (n : Nat) : (newM n).Coh := fun _ _ _ _ => rfl

/-- Behind a crash nothing is unsure. -/
theorem crM_cnt {m : Mem} {q : Nat → Int} {kn : Nat} {K : Int} (ok : m.Ok K) {j : Nat} (hj : j < m.n) : (m.crM q kn).g j 16 = 0 := by
  show crG m.n m.g m.h q kn 0 j 16 = 0
  unfold crG
  have := (ok.2.2.2.2 j hj).1.1
  by_cases hp : 0 ≤ j ∧ j < m.n ∧ m.g j 16 > 0
  · rw [if_pos hp]; rfl
  · rw [if_neg hp]; omega

theorem coh_zero {r hr : Nat → Int} (h : Coh r hr) (h0 : r 16 = 0) (c : Nat) (hc : c < 8) : r c = r (8 + c) := by
  rw [h c hc, h0]; rfl
end Go.Proofs.Ythgagehgiooklaa.G
end

/-
  A call of both memories: they do not part.
-/
section
namespace Go.Proofs.Ythgagehgiooklaa.G
open Go Go.AM Go.Proofs

def doM (k c i w v : Int) (q : Nat → Int) (kn : Nat) (m : Mem) : Mem := if k < 5 then m.stM i w v else if k = 5 then m.flM c i else if k = 6 then m.feM c else if k = 7 then m.evM i w else if k = 8 then m.fuM w else if k = 9 then m.crM q kn else m
def doR (k c i w v : Int) (q : Nat → Int) (kn : Nat) (y : RMem) : RMem := if k < 5 then y.stM i w v else if k = 5 then y.flM c i else if k = 6 then y.feM c else if k = 7 then y.evM i w else if k = 8 then y.fuM w else if k = 9 then y.crM q kn else y

def bothA (m : Mem) (y : RMem) : List At := [.b m.off, .b m.burns, .i m.left, .i m.steps, .b y.off, .i y.left, .i y.count, .q m.n m.g 16 2 m.h, .r y.n y.S, .q y.k y.G 0 10 y.L]

def int64 (x : Int) : Prop := -9223372036854775808 ≤ x ∧ x ≤ 9223372036854775807
/-- The two memories, as they may be. -/
def Two (K : Int) (m : Mem) (y : RMem) : Prop := m.Ok K ∧ y.Ok K ∧ m.Coh ∧ Side m y
theorem Two.mono {K K' : Int} {m : Mem} {y : RMem} (h : Two K m y) (hk : K ≤ K') : Two K' m y := ⟨h.1.mono hk, h.2.1.mono hk, h.2.2.1, h.2.2.2⟩

theorem fuM_coh {m : Mem} {x : Int} (h : m.Coh) : (m.fuM x).Coh := h

theorem two_do {K : Int} {m : Mem} {y : RMem} (h : Two K m y) (hK : K < 900000) {k c i w v : Int} {q : Nat → Int} {kn : Nat} (hw : int64 w) : Two (K + 1) (doM k c i w v q kn m) (doR k c i w v q kn y) := by
  obtain ⟨h1, h2, h3, h4⟩ := h
  unfold doM doR
  by_cases k0 : k < 5
  · rw [if_pos k0, if_pos k0]; exact ⟨stM_ok h1 (by omega), rstM_ok h2 (by omega), stM_coh h3 h1, side_stM h4 h2 _ _ _⟩
  rw [if_neg k0, if_neg k0]
  by_cases k1 : k = 5
  · rw [if_pos k1, if_pos k1]; exact ⟨flM_ok h1, rflM_ok h2, flM_coh h3, side_flM h4 h2 _ _⟩
  rw [if_neg k1, if_neg k1]
  by_cases k2 : k = 6
  · rw [if_pos k2, if_pos k2]; exact ⟨feM_ok h1, rfeM_ok h2, feM_coh h3 h1, side_feM h4 h2 _⟩
  rw [if_neg k2, if_neg k2]
  by_cases k3 : k = 7
  · rw [if_pos k3, if_pos k3]; exact ⟨(evM_ok h1).mono (by omega), (revM_ok h2).mono (by omega), evM_coh h3 h1, side_evM h4 h2 _ _⟩
  rw [if_neg k3, if_neg k3]
  by_cases k4 : k = 8
  · rw [if_pos k4, if_pos k4]; exact ⟨(fuM_ok h1 hw.2).mono (by omega), (rfuM_ok h2 hw.2).mono (by omega), fuM_coh h3, side_fuM h4 _⟩
  rw [if_neg k4, if_neg k4]
  by_cases k5 : k = 9
  · rw [if_pos k5, if_pos k5]; exact ⟨(crM_ok h1).mono (by omega), (rcrM_ok h2).mono (by omega), crM_coh h3, side_crM h4 h2 _ _⟩
  rw [if_neg k5, if_neg k5]
  exact ⟨h1.mono (by omega), h2.mono (by omega), h3, h4⟩

def doPre (k c i w v : Int) (q : Nat → Int) (kn : Nat) (m : Mem) (y : RMem) : Prop := Two 800000 m y ∧ int64 k ∧ int64 w ∧ KeepOk q kn

theorem t_does (k c i w v : Int) (n : Nat) (g : Nat → Nat → Int) (m : Mem) (y : RMem) (h : doPre k c i w v (fun j => g j 0) n m y) :
    (T_does k c i w v m.off m.burns m.left m.steps y.off y.left y.count n g m.n m.g m.h y.n y.S y.k y.G y.L).sat fun r => AtsEq r (.b true :: bothA (doM (r_kind_0 k 12) c i w v (fun j => g j 0) n m) (doR (r_kind_0 k 12) c i w v (fun j => g j 0) n y)) := by
  obtain ⟨⟨h1, h2, h3, h4⟩, hk, hw, hq⟩ := h
  obtain ⟨d1, d2, d3⟩ := kind_in (n := 12) hk.1 hk.2 (by decide) (by decide)
  have o1 : m.Ok 900000 := h1.mono (by decide)
  have o2 : y.Ok 900000 := h2.mono (by decide)
  have e : (fun j => g (0 + j) 0) = fun j => g j 0 := by funext j; rw [Nat.zero_add]
  generalize hkd : r_kind_0 k 12 = kd at *
  unfold T_does does_c5 does_c4 does_c3 does_c2 does_c1 does_c0
  rw [hkd, e]
  refine brT d1 ?_
  have leaf : ∀ {K1 K2 : Int} {m' : Mem} {y' : RMem}, m' = doM kd c i w v (fun j => g j 0) n m → y' = doR kd c i w v (fun j => g j 0) n y → ∀ b : Bool, b = true → AtsEq (.b b :: bothA m' y') (.b true :: bothA (doM kd c i w v (fun j => g j 0) n m) (doR kd c i w v (fun j => g j 0) n y)) := fun e1 e2 b hb => by rw [e1, e2, hb]; exact AtsEq.refl _
  have st : kd < 5 → (Tr.br 0 (pdec (Mem.Ok 900000 m)) (.br 0 (pdec (RMem.Ok 900000 y)) (.ok (.b (m.stC i w == y.stC i w) :: bothA (m.stM i w v) (y.stM i w v))) .no) .no).sat fun r => AtsEq r (.b true :: bothA (doM kd c i w v (fun j => g j 0) n m) (doR kd c i w v (fun j => g j 0) n y)) := fun hlt =>
    brT (pdec_yes o1) (brT (pdec_yes o2) (Tr.sat_ok.2 (leaf (K1 := 0) (K2 := 0) (by unfold doM; rw [if_pos hlt]) (by unfold doR; rw [if_pos hlt]) _ (by rw [side_stC h4]; simp))))
  have ld : ∀ {m' : Mem} {y' : RMem}, m'.Coh → y'.Ok 900000 → Side m' y' → m' = doM kd c i w v (fun j => g j 0) n m → y' = doR kd c i w v (fun j => g j 0) n y → ∀ b : Bool, b = (m'.ldW i 0 == y'.ldW i 0 && (m'.ldW i 1 == y'.ldW i 1 && (m'.ldW i 2 == y'.ldW i 2 && (m'.ldW i 3 == y'.ldW i 3 && (m'.ldW i 4 == y'.ldW i 4 && (m'.ldW i 5 == y'.ldW i 5 && (m'.ldW i 6 == y'.ldW i 6 && (m'.ldW i 7 == y'.ldW i 7 && true)))))))) → ∀ z : List At,
      (Tr.br 115 b (.ok (.b (m'.ldC i == y'.ldC i) :: bothA m' y')) (.ok z)).sat fun r => AtsEq r (.b true :: bothA (doM kd c i w v (fun j => g j 0) n m) (doR kd c i w v (fun j => g j 0) n y)) := by
    intro m' y' c1 c2 c3 e1 e2 b hb z
    refine brT ?_ (Tr.sat_ok.2 (leaf (K1 := 0) (K2 := 0) e1 e2 _ (by rw [side_ldC c3]; simp)))
    rw [hb]
    simp only [side_ldW c3 c2 c1 i 0 (by decide), side_ldW c3 c2 c1 i 1 (by decide), side_ldW c3 c2 c1 i 2 (by decide), side_ldW c3 c2 c1 i 3 (by decide), side_ldW c3 c2 c1 i 4 (by decide), side_ldW c3 c2 c1 i 5 (by decide), side_ldW c3 c2 c1 i 6 (by decide), side_ldW c3 c2 c1 i 7 (by decide), beq_self_eq_true, Bool.and_self]
  refine brQ (fun k0 => st (by omega)) (fun k0 => brQ (fun k1 => st (by omega)) (fun k1 => brQ (fun k2 => st (by omega)) (fun k2 => brQ (fun k3 => st (by omega)) (fun k3 => brQ (fun k4 => st (by omega)) (fun k4 => ?_)))))
  have hge : ¬ kd < 5 := by omega
  refine brQ (fun k5 => brT (pdec_yes o1) (brT (pdec_yes o2) (Tr.sat_ok.2 ?_))) (fun k5 => brQ (fun k6 => brT (pdec_yes o1) (brT (pdec_yes o2) (Tr.sat_ok.2 ?_))) (fun k6 => brQ (fun k7 => brT (pdec_yes o1) (brT (pdec_yes o2) (Tr.sat_ok.2 ?_))) (fun k7 => brQ (fun k8 => brT (pdec_yes (rfuM_ok o2 hw.2)) ?_) (fun k8 => brQ (fun k9 => brT (pdec_yes o1) (brT (pdec_yes hq) (brT (pdec_yes o2) (brT (pdec_yes hq) (brT (pdec_yes (rcrM_ok o2)) ?_))))) (fun k9 => brT (pdec_yes o2) ?_)))))
  · exact leaf (K1 := 0) (K2 := 0) (by unfold doM; rw [if_neg hge, if_pos k5]) (by unfold doR; rw [if_neg hge, if_pos k5]) _ (by rw [show RMem.flC ⟨y.n, y.S, y.k, y.G, y.L, y.off, y.left, y.count⟩ c i = _ from side_flC h4 c i]; simp)
  · exact leaf (K1 := 0) (K2 := 0) (by unfold doM; rw [if_neg hge, if_neg k5, if_pos k6]) (by unfold doR; rw [if_neg hge, if_neg k5, if_pos k6]) _ (by rw [show RMem.feC ⟨y.n, y.S, y.k, y.G, y.L, y.off, y.left, y.count⟩ c = _ from side_feC h4 c]; simp)
  · exact leaf (K1 := 0) (K2 := 0) (by unfold doM; rw [if_neg hge, if_neg k5, if_neg k6, if_pos k7]) (by unfold doR; rw [if_neg hge, if_neg k5, if_neg k6, if_pos k7]) _ (by rw [show RMem.evC ⟨y.n, y.S, y.k, y.G, y.L, y.off, y.left, y.count⟩ i w = _ from side_evC h4 i w]; simp)
  · exact ld (fuM_coh h3) (rfuM_ok o2 hw.2) (side_fuM h4 w) (by unfold doM; rw [if_neg hge, if_neg k5, if_neg k6, if_neg k7, if_pos k8]) (by unfold doR; rw [if_neg hge, if_neg k5, if_neg k6, if_neg k7, if_pos k8]) _ rfl _
  · exact ld (crM_coh h3) (rcrM_ok o2) (side_crM h4 o2 _ _) (by unfold doM; rw [if_neg hge, if_neg k5, if_neg k6, if_neg k7, if_neg k8, if_pos k9]) (by unfold doR; rw [if_neg hge, if_neg k5, if_neg k6, if_neg k7, if_neg k8, if_pos k9]) _ rfl _
  · exact ld h3 o2 h4 (by unfold doM; rw [if_neg hge, if_neg k5, if_neg k6, if_neg k7, if_neg k8, if_neg k9]) (by unfold doR; rw [if_neg hge, if_neg k5, if_neg k6, if_neg k7, if_neg k8, if_neg k9]) _ rfl _

def mmD (l : List At) : Mem := ⟨aRn l 13, aRg l 13, aMh l 13 16 2, aB l 5, aB l 6, aI l 7, aI l 8⟩
def mmE (l : List At) : RMem := ⟨aRn l 14, aRg l 14, aRn l 15, aRg l 15, aMh l 15 0 10, aB l 9, aI l 10, aI l 11⟩
noncomputable def F2_does (l : List At) : Tr (List At) := .br 0 (pdec (doPre (aI l 0) (aI l 1) (aI l 2) (aI l 3) (aI l 4) (fun j => aRg l 12 j 0) (aRn l 12) (mmD l) (mmE l)))
  (.ok (.b true :: bothA (doM (r_kind_0 (aI l 0) 12) (aI l 1) (aI l 2) (aI l 3) (aI l 4) (fun j => aRg l 12 j 0) (aRn l 12) (mmD l)) (doR (r_kind_0 (aI l 0) 12) (aI l 1) (aI l 2) (aI l 3) (aI l 4) (fun j => aRg l 12 j 0) (aRn l 12) (mmE l)))) .no
theorem s2_does : SpecF Try.prog 29 (.eff (locF ish_does osh_does F2_does)) :=
  spec_loc (sy := y_does) (fuel := 100) (Lp := noLoops) o_K4 mixed ⟨Try.func29, by kernel_rfl, by kernel_rfl⟩ ish_does osh_does (noLoops_ok _) (hT_of e_does fun l r h => by
    obtain ⟨h1, h⟩ := guard_val h
    have := val_ok h
    subst this
    exact t_does _ _ _ _ _ _ _ (mmD l) (mmE l) (of_pdec h1))
noncomputable def Γ_D2 : Specs := upd Γ_K4 29 (.eff (locF ish_does osh_does F2_does))
theorem o_D2 : SpecOK Try.prog Γ_D2 := SpecOK.upd o_K4 s2_does
end Go.Proofs.Ythgagehgiooklaa.G
end

/-
  What functions of the seat compute, printed by a program from the explorer.
-/
section
namespace Go.Proofs.Ythgagehgiooklaa.G
open Go Go.AM Go.Proofs
/-! ### the loop at 4 of same -/

noncomputable def lsh_same_4 : FSh := ⟨[.v false [.sq 0 8], .v false [.sq 1 8], .any, .any, .any, .v false [.k (.n .i64)], .any, .any, .any, .any, .any, .any, .any, .any, .any, .any, .any, .any, .any, .any, .any, .any, .any, .any, .any, .any], [.rows [.n .u64, .n .u64, .n .u64, .n .u64, .n .u64, .n .u64, .n .u64, .n .u64] false, .rows [.n .u64, .n .u64, .n .u64, .n .u64, .n .u64, .n .u64, .n .u64, .n .u64] false]⟩
noncomputable def xsh_same_4_0 : FSh := ⟨[.any, .any, .any, .any, .any, .any, .any, .any, .any, .any, .any, .any, .any, .any, .any, .any, .any, .any, .any, .any, .any, .any, .any, .any, .any, .any], [.no, .no]⟩
noncomputable def xsh_same_4_1 : FSh := ⟨[.any, .any, .any, .any, .v false [.k .b], .any, .any, .any, .any, .any, .any, .any, .any, .any, .any, .any, .any, .any, .any, .any, .any, .any, .any, .any, .any, .any], [.no, .no]⟩
noncomputable def xs_same_4 : Exs := fun e => match e with
  | .normal => some lsh_same_4
  | .exit n => (match Nat.beq n 0 with | true => some xsh_same_4_0 | false => none)
  | .ret => some xsh_same_4_1
noncomputable def same_4_c0 (x0 : Nat) (x2 : Nat) (x4 : Int) (g5 : Nat → Nat → Int) (g6 : Nat → Nat → Int) : Bool := g5 (x0 + Int.toNat x4) (0 : Nat) == g6 (x2 + Int.toNat x4) (0 : Nat) && (g5 (x0 + Int.toNat x4) (1 : Nat) == g6 (x2 + Int.toNat x4) (1 : Nat) && (g5 (x0 + Int.toNat x4) (2 : Nat) == g6 (x2 + Int.toNat x4) (2 : Nat) && (g5 (x0 + Int.toNat x4) (3 : Nat) == g6 (x2 + Int.toNat x4) (3 : Nat) && (g5 (x0 + Int.toNat x4) (4 : Nat) == g6 (x2 + Int.toNat x4) (4 : Nat) && (g5 (x0 + Int.toNat x4) (5 : Nat) == g6 (x2 + Int.toNat x4) (5 : Nat) && (g5 (x0 + Int.toNat x4) (6 : Nat) == g6 (x2 + Int.toNat x4) (6 : Nat) && (g5 (x0 + Int.toNat x4) (7 : Nat) == g6 (x2 + Int.toNat x4) (7 : Nat) && Bool.true)))))))
noncomputable def same_4_c1 (x0 : Nat) (x2 : Nat) (x4 : Int) (g5 : Nat → Nat → Int) (g6 : Nat → Nat → Int) : Bool := !(same_4_c0 x0 x2 x4 g5 g6)
noncomputable def B_same_4 (x0 : Nat) (x1 : Nat) (x2 : Nat) (x3 : Nat) (x4 : Int) (n5 : Nat) (g5 : Nat → Nat → Int) (n6 : Nat) (g6 : Nat → Nat → Int) : Tr (Ex × List At) :=
 .br 14 (Decidable.decide (x4 < (↑x1 : Int)))
 (.br 19 (Go.AM.within x4 x1)
 (.br 23 (Go.AM.within x4 x3)
 (.br 25 ((same_4_c1 x0 x2 x4 g5 g6))
 (.ok (.ret, [(.b (Bool.false))]))
 (.ok (.normal, [(.n (x0)), (.n (x1)), (.n (x2)), (.n (x3)), (.i (Go.IntKind.wrap Go.IntKind.i64 (x4 + (1 : Int)))), (.r (n5) (g5)), (.r (n6) (g6))])))
 (.no))
 (.no))
 (.ok (.exit 0, []))
noncomputable def y_same_4 : Nat → Option Nat := (syOf3 [14, 19, 23, 25] [] [])
noncomputable def BL_same_4 (l : List At) : Tr (Ex × List At) := B_same_4 (aN l 0) (aN l 1) (aN l 2) (aN l 3) (aI l 4) (aRn l 5) (aRg l 5) (aRn l 6) (aRg l 6)
theorem eB_same_4 (l : List At) : (exec Try.prog Γ_S13 y_same_4 noLoops 100 (loopAt Try.f24 4) ⟨mkV lsh_same_4 l, mkH lsh_same_4 l⟩).bind (leafL 2 xs_same_4) = BL_same_4 l := by kernel_rfl
/- by hand: O_same_4 (x0 : Nat) (x1 : Nat) (x2 : Nat) (x3 : Nat) (x4 : Int) (n5 : Nat) (g5 : Nat → Nat → Int) (n6 : Nat) (g6 : Nat → Nat → Int) : Tr (Ex × List At); OL_same_4 (l) := O_same_4 (aN l 0) (aN l 1) (aN l 2) (aN l 3) (aI l 4) (aRn l 5) (aRg l 5) (aRn l 6) (aRg l 6); μ_same_4 : List At → Nat; rd_same_4 : ∀ l r, (OL_same_4 l).val = some r → RoundA BL_same_4 OL_same_4 μ_same_4 l r -/

end Go.Proofs.Ythgagehgiooklaa.G
end

/-
  The loop of 'same': rows of lines that are the same.
-/
section
namespace Go.Proofs.Ythgagehgiooklaa.G
open Go Go.AM Go.Proofs

def preSm (x0 x1 x2 x3 : Nat) (x4 : Int) (g5 g6 : Nat → Nat → Int) : Prop := 0 ≤ x4 ∧ x1 ≤ x3 ∧ x1 ≤ 1152921504606846976 ∧ ∀ i : Nat, x4 ≤ (i : Int) → i < x1 → ∀ c, c < 8 → g5 (x0 + i) c = g6 (x2 + i) c

noncomputable def O_same_4 (x0 x1 x2 x3 : Nat) (x4 : Int) (g5 g6 : Nat → Nat → Int) : Tr (Ex × List At) :=
  .br 0 (pdec (preSm x0 x1 x2 x3 x4 g5 g6)) (.ok (.exit 0, [])) .no
noncomputable def OL_same_4 (l : List At) : Tr (Ex × List At) := O_same_4 (aN l 0) (aN l 1) (aN l 2) (aN l 3) (aI l 4) (aRg l 5) (aRg l 6)
def μ_same_4 (l : List At) : Nat := ((aN l 1 : Int) - aI l 4).toNat

theorem rd_same_4 : ∀ l r, (OL_same_4 l).val = some r → RoundS BL_same_4 OL_same_4 μ_same_4 l r := by
  intro l r hh
  unfold OL_same_4 at hh
  obtain ⟨hc, h⟩ := guard_val hh
  clear hh
  obtain ⟨c0, c1, c2, c3⟩ := of_pdec hc
  have hr := val_ok h
  unfold RoundS BL_same_4 B_same_4
  generalize hx0 : aN l 0 = x0 at *
  generalize hx1 : aN l 1 = x1 at *
  generalize hx2 : aN l 2 = x2 at *
  generalize hx3 : aN l 3 = x3 at *
  generalize hx4 : aI l 4 = x4 at *
  generalize hg5 : aRg l 5 = g5 at *
  generalize hg6 : aRg l 6 = g6 at *
  refine brD (fun h1 => brW (fun _ => brW (fun _ => ?_) (fun hh => by exfalso; omega)) (fun hh => by exfalso; omega)) (fun h1 => ?_)
  · obtain ⟨i, rfl⟩ := Int.eq_ofNat_of_zero_le c0
    have hw : IntKind.i64.wrap ((i : Int) + 1) = (i : Int) + 1 := wrap_i64 (by omega) (by omega)
    have hμ : ((x1 : Int) - ((i : Int) + 1)).toNat < μ_same_4 l := by unfold μ_same_4; rw [hx1, hx4]; omega
    have e := c3 i (Int.le_refl _) (by omega)
    rw [hw]
    have k : same_4_c1 x0 x2 (i : Int) g5 g6 = false := by
      unfold same_4_c1
      try unfold same_4_c0
      rw [Int.toNat_natCast, e 0 (by omega), e 1 (by omega), e 2 (by omega), e 3 (by omega), e 4 (by omega), e 5 (by omega), e 6 (by omega), e 7 (by omega)]
      simp
    have hq : preSm x0 x1 x2 x3 ((i : Int) + 1) g5 g6 := ⟨by omega, c1, c2, fun j h5 h6 => c3 j (by omega) h6⟩
    exact brF k (on_ _ r (AtsEq.refl _) hμ ((br_t (g := 0) (pdec_yes hq)).trans h) rfl (AtsEq.refl _))
  · subst hr
    exact out_ (by simp) rfl (AtsEq.refl _)
end Go.Proofs.Ythgagehgiooklaa.G
end

/-
  What functions of the seat compute, printed by a program from the explorer.
-/
section
namespace Go.Proofs.Ythgagehgiooklaa.G
open Go Go.AM Go.Proofs
theorem f_same_4 : LoopF Try.prog 2 (loopAt Try.f24 4) (loopFn 2 lsh_same_4 xs_same_4 OL_same_4) :=
  loop_sat (sy := y_same_4) (fuel := 100) (Lp := noLoops) o_S13 mixed (loopsOK_at (noLoops_ok _) 4) rfl eB_same_4 rd_same_4
noncomputable def Lp_same_4 : Loops := Loops.set noLoops 4 (loopFn 2 lsh_same_4 xs_same_4 OL_same_4)
theorem lk_same_4 : LoopsFn Try.prog 2 Lp_same_4 Try.f24 := loopsFn_set (noLoops_ok _) (by kernel_rfl) f_same_4

/-! ### same -/

noncomputable def ish_same : FSh := ⟨[.v false [.vw 0 8], .v false [.vw 1 8]], [.rows [.n .u64, .n .u64, .n .u64, .n .u64, .n .u64, .n .u64, .n .u64, .n .u64] false, .rows [.n .u64, .n .u64, .n .u64, .n .u64, .n .u64, .n .u64, .n .u64, .n .u64] false]⟩
noncomputable def osh_same : FSh := ⟨[.v false [.k .b]], [.no, .no]⟩
noncomputable def T_same (n0 : Nat) (g0 : Nat → Nat → Int) (n1 : Nat) (g1 : Nat → Nat → Int) : Tr (List At) :=
 .br 10 ((↑n0 : Int) != (↑n1 : Int))
 (.ok [(.b (Bool.false))])
 (.br 0 (Go.Proofs.Ythgagehgiooklaa.G.pdec (Go.Proofs.Ythgagehgiooklaa.G.preSm (0 : Nat) n0 (0 : Nat) n1 (0 : Int) g0 g1))
 (.ok [(.b (Bool.true))])
 (.no))
noncomputable def y_same : Nat → Option Nat := (syOf3 [10] [] [])
noncomputable def TL_same (l : List At) : Tr (List At) := T_same (aRn l 0) (aRg l 0) (aRn l 1) (aRg l 1)
theorem e_same (l : List At) : (call Try.prog Γ_S13 y_same Lp_same_4 100 Try.f24 (mkV ish_same l) (mkH ish_same l)).bind (leafO 2 osh_same) = TL_same l := by kernel_rfl
noncomputable def F_same : List At → Tr (List At) := TL_same
theorem s_same : SpecF Try.prog 24 (.read (locR ish_same osh_same F_same)) :=
  spec_read (sy := y_same) (fuel := 100) (Lp := Lp_same_4) o_S13 mixed ⟨Try.func24, by kernel_rfl, by kernel_rfl⟩ ish_same osh_same (by kernel_rfl) lk_same_4 (hT_ways e_same)
noncomputable def Γ_same : Specs := upd Γ_S13 24 (.read (locR ish_same osh_same F_same))
theorem o_same : SpecOK Try.prog Γ_same := SpecOK.upd o_S13 s_same

end Go.Proofs.Ythgagehgiooklaa.G
end

/-
  What functions of the seat compute, printed by a program from the explorer.
-/
section
namespace Go.Proofs.Ythgagehgiooklaa.G
open Go Go.AM Go.Proofs
/-! ### the loop at 9 of NvmPlays -/

noncomputable def lsh_NvmPlays_9 : FSh := ⟨[.any, .v false [.sq 0 6], .any, .any, .any, .any, .v false [.p 2 0], .any, .v false [.p 3 0], .any, .v false [.k (.n .i64)], .any, .any, .any, .any, .any, .any, .any, .any, .any, .any, .any, .any, .any, .any, .any, .any, .any, .any, .any, .any, .any, .any, .any, .any, .any, .any, .any, .any, .any, .any, .any, .any, .any, .any, .any, .any, .any, .any, .any, .any, .any, .any, .any, .any, .any, .any, .any, .any, .any, .any, .any, .any, .any, .any, .any, .any, .any, .any, .any, .any, .any, .any, .any, .any, .any, .any, .any, .any, .any, .any, .any, .any, .any, .any, .any, .any, .any, .any, .any, .any, .any, .any, .any, .any, .any, .any, .any, .any, .any, .any, .any, .any, .any, .any, .any, .any, .any, .any, .any, .any, .any, .any, .any, .any, .any, .any, .any, .any, .any, .any, .any, .any, .any, .any, .any, .any, .any, .any, .any, .any, .any, .any, .any, .any, .any, .any, .any], [.nrows [.n .i64, .n .i64, .n .i64, .n .i64, .n .u64, .n .i64] 5 [.n .i64] 1 false false, .no, .cells [.sw 4 25, .k .b, .k .b, .k (.n .i64), .k (.n .i64)], .cells [.sw 5 8, .sw 6 1, .k .b, .k (.n .i64), .k (.n .i64)], .nrows [.n .u64, .n .u64, .n .u64, .n .u64, .n .u64, .n .u64, .n .u64, .n .u64, .n .u64, .n .u64, .n .u64, .n .u64, .n .u64, .n .u64, .n .u64, .n .u64, .n .i64, .n .i64, .n .i64, .n .i64, .n .i64, .n .i64, .n .i64, .n .i64, .n .i64] 16 [.n .i64, .n .u64] 7 false true, .rows [.n .u64, .n .u64, .n .u64, .n .u64, .n .u64, .n .u64, .n .u64, .n .u64] true, .nrows [.n .i64] 0 [.n .i64, .n .u64, .b, .b, .b, .b, .b, .b, .b, .b] 8 false true, .no, .no]⟩
noncomputable def xsh_NvmPlays_9_0 : FSh := ⟨[.any, .any, .any, .any, .any, .any, .v false [.p 2 0], .any, .v false [.p 3 0], .any, .any, .any, .any, .any, .any, .any, .any, .any, .any, .any, .any, .any, .any, .any, .any, .any, .any, .any, .any, .any, .any, .any, .any, .any, .any, .any, .any, .any, .any, .any, .any, .any, .any, .any, .any, .any, .any, .any, .any, .any, .any, .any, .any, .any, .any, .any, .any, .any, .any, .any, .any, .any, .any, .any, .any, .any, .any, .any, .any, .any, .any, .any, .any, .any, .any, .any, .any, .any, .any, .any, .any, .any, .any, .any, .any, .any, .any, .any, .any, .any, .any, .any, .any, .any, .any, .any, .any, .any, .any, .any, .any, .any, .any, .any, .any, .any, .any, .any, .any, .any, .any, .any, .any, .any, .any, .any, .any, .any, .any, .any, .any, .any, .any, .any, .any, .any, .any, .any, .any, .any, .any, .any, .any, .any, .any, .any, .any, .any], [.no, .no, .cells [.sw 4 25, .k .b, .k .b, .k (.n .i64), .k (.n .i64)], .cells [.sw 5 8, .sw 6 1, .k .b, .k (.n .i64), .k (.n .i64)], .nrows [.n .u64, .n .u64, .n .u64, .n .u64, .n .u64, .n .u64, .n .u64, .n .u64, .n .u64, .n .u64, .n .u64, .n .u64, .n .u64, .n .u64, .n .u64, .n .u64, .n .i64, .n .i64, .n .i64, .n .i64, .n .i64, .n .i64, .n .i64, .n .i64, .n .i64] 16 [.n .i64, .n .u64] 7 false true, .rows [.n .u64, .n .u64, .n .u64, .n .u64, .n .u64, .n .u64, .n .u64, .n .u64] true, .nrows [.n .i64] 0 [.n .i64, .n .u64, .b, .b, .b, .b, .b, .b, .b, .b] 8 false true, .no, .no]⟩
noncomputable def xsh_NvmPlays_9_1 : FSh := ⟨[.any, .any, .any, .any, .v false [.k .b], .any, .any, .any, .any, .any, .any, .any, .any, .any, .any, .any, .any, .any, .any, .any, .any, .any, .any, .any, .any, .any, .any, .any, .any, .any, .any, .any, .any, .any, .any, .any, .any, .any, .any, .any, .any, .any, .any, .any, .any, .any, .any, .any, .any, .any, .any, .any, .any, .any, .any, .any, .any, .any, .any, .any, .any, .any, .any, .any, .any, .any, .any, .any, .any, .any, .any, .any, .any, .any, .any, .any, .any, .any, .any, .any, .any, .any, .any, .any, .any, .any, .any, .any, .any, .any, .any, .any, .any, .any, .any, .any, .any, .any, .any, .any, .any, .any, .any, .any, .any, .any, .any, .any, .any, .any, .any, .any, .any, .any, .any, .any, .any, .any, .any, .any, .any, .any, .any, .any, .any, .any, .any, .any, .any, .any, .any, .any, .any, .any, .any, .any, .any, .any], [.no, .no]⟩
noncomputable def xs_NvmPlays_9 : Exs := fun e => match e with
  | .normal => some lsh_NvmPlays_9
  | .exit n => (match Nat.beq n 0 with | true => some xsh_NvmPlays_9_0 | false => none)
  | .ret => some xsh_NvmPlays_9_1
noncomputable def NvmPlays_9_c0 (x0 : Nat) (x2 : Int) (g3 : Nat → Nat → Int) (h3 : Nat → Nat → Int) (x4 : Bool) (x5 : Bool) (x6 : Int) (x7 : Int) (x8 : Bool) (x9 : Int) (x10 : Int) (n11 : Nat) (g11 : Nat → Nat → Int) (h11 : Nat → Nat → Int) (n12 : Nat) (g12 : Nat → Nat → Int) (n13 : Nat) (g13 : Nat → Nat → Int) (h13 : Nat → Nat → Int) : Bool := (↑(Go.Proofs.Ythgagehgiooklaa.G.doM (Go.Proofs.Ythgagehgiooklaa.G.r_kind_0 (g3 (x0 + Int.toNat x2) (0 : Nat)) (12 : Int)) (g3 (x0 + Int.toNat x2) (1 : Nat)) (g3 (x0 + Int.toNat x2) (2 : Nat)) (g3 (x0 + Int.toNat x2) (3 : Nat)) (g3 (x0 + Int.toNat x2) (4 : Nat)) (fun (j : Nat) => h3 (x0 + Int.toNat x2) (((0 : Nat) + j) * (1 : Nat) + (0 : Nat))) (Int.toNat (g3 (x0 + Int.toNat x2) (5 : Nat))) { n := n11, g := g11, h := h11, off := x4, burns := x5, left := x6, steps := x7 }).n : Int) != (↑(Go.Proofs.Ythgagehgiooklaa.G.doR (Go.Proofs.Ythgagehgiooklaa.G.r_kind_0 (g3 (x0 + Int.toNat x2) (0 : Nat)) (12 : Int)) (g3 (x0 + Int.toNat x2) (1 : Nat)) (g3 (x0 + Int.toNat x2) (2 : Nat)) (g3 (x0 + Int.toNat x2) (3 : Nat)) (g3 (x0 + Int.toNat x2) (4 : Nat)) (fun (j : Nat) => h3 (x0 + Int.toNat x2) (((0 : Nat) + j) * (1 : Nat) + (0 : Nat))) (Int.toNat (g3 (x0 + Int.toNat x2) (5 : Nat))) { n := n12, S := g12, k := n13, G := g13, L := h13, off := x8, left := x9, count := x10 }).n : Int)
noncomputable def NvmPlays_9_c1 (x0 : Nat) (x2 : Int) (g3 : Nat → Nat → Int) (h3 : Nat → Nat → Int) (x4 : Bool) (x5 : Bool) (x6 : Int) (x7 : Int) (x8 : Bool) (x9 : Int) (x10 : Int) (n11 : Nat) (g11 : Nat → Nat → Int) (h11 : Nat → Nat → Int) (n12 : Nat) (g12 : Nat → Nat → Int) (n13 : Nat) (g13 : Nat → Nat → Int) (h13 : Nat → Nat → Int) : Bool := (Go.Proofs.Ythgagehgiooklaa.G.doM (Go.Proofs.Ythgagehgiooklaa.G.r_kind_0 (g3 (x0 + Int.toNat x2) (0 : Nat)) (12 : Int)) (g3 (x0 + Int.toNat x2) (1 : Nat)) (g3 (x0 + Int.toNat x2) (2 : Nat)) (g3 (x0 + Int.toNat x2) (3 : Nat)) (g3 (x0 + Int.toNat x2) (4 : Nat)) (fun (j : Nat) => h3 (x0 + Int.toNat x2) (((0 : Nat) + j) * (1 : Nat) + (0 : Nat))) (Int.toNat (g3 (x0 + Int.toNat x2) (5 : Nat))) { n := n11, g := g11, h := h11, off := x4, burns := x5, left := x6, steps := x7 }).steps != (Go.Proofs.Ythgagehgiooklaa.G.doR (Go.Proofs.Ythgagehgiooklaa.G.r_kind_0 (g3 (x0 + Int.toNat x2) (0 : Nat)) (12 : Int)) (g3 (x0 + Int.toNat x2) (1 : Nat)) (g3 (x0 + Int.toNat x2) (2 : Nat)) (g3 (x0 + Int.toNat x2) (3 : Nat)) (g3 (x0 + Int.toNat x2) (4 : Nat)) (fun (j : Nat) => h3 (x0 + Int.toNat x2) (((0 : Nat) + j) * (1 : Nat) + (0 : Nat))) (Int.toNat (g3 (x0 + Int.toNat x2) (5 : Nat))) { n := n12, S := g12, k := n13, G := g13, L := h13, off := x8, left := x9, count := x10 }).count
noncomputable def NvmPlays_9_c2 (x0 : Nat) (x2 : Int) (g3 : Nat → Nat → Int) (h3 : Nat → Nat → Int) (x4 : Bool) (x5 : Bool) (x6 : Int) (x7 : Int) (x8 : Bool) (x9 : Int) (x10 : Int) (n11 : Nat) (g11 : Nat → Nat → Int) (h11 : Nat → Nat → Int) (n12 : Nat) (g12 : Nat → Nat → Int) (n13 : Nat) (g13 : Nat → Nat → Int) (h13 : Nat → Nat → Int) : Bool := (!(Go.Proofs.Ythgagehgiooklaa.G.doM (Go.Proofs.Ythgagehgiooklaa.G.r_kind_0 (g3 (x0 + Int.toNat x2) (0 : Nat)) (12 : Int)) (g3 (x0 + Int.toNat x2) (1 : Nat)) (g3 (x0 + Int.toNat x2) (2 : Nat)) (g3 (x0 + Int.toNat x2) (3 : Nat)) (g3 (x0 + Int.toNat x2) (4 : Nat)) (fun (j : Nat) => h3 (x0 + Int.toNat x2) (((0 : Nat) + j) * (1 : Nat) + (0 : Nat))) (Int.toNat (g3 (x0 + Int.toNat x2) (5 : Nat))) { n := n11, g := g11, h := h11, off := x4, burns := x5, left := x6, steps := x7 }).off) == (Go.Proofs.Ythgagehgiooklaa.G.doR (Go.Proofs.Ythgagehgiooklaa.G.r_kind_0 (g3 (x0 + Int.toNat x2) (0 : Nat)) (12 : Int)) (g3 (x0 + Int.toNat x2) (1 : Nat)) (g3 (x0 + Int.toNat x2) (2 : Nat)) (g3 (x0 + Int.toNat x2) (3 : Nat)) (g3 (x0 + Int.toNat x2) (4 : Nat)) (fun (j : Nat) => h3 (x0 + Int.toNat x2) (((0 : Nat) + j) * (1 : Nat) + (0 : Nat))) (Int.toNat (g3 (x0 + Int.toNat x2) (5 : Nat))) { n := n12, S := g12, k := n13, G := g13, L := h13, off := x8, left := x9, count := x10 }).off
noncomputable def B_NvmPlays_9 (x0 : Nat) (x1 : Nat) (x2 : Int) (n3 : Nat) (g3 : Nat → Nat → Int) (h3 : Nat → Nat → Int) (x4 : Bool) (x5 : Bool) (x6 : Int) (x7 : Int) (x8 : Bool) (x9 : Int) (x10 : Int) (n11 : Nat) (g11 : Nat → Nat → Int) (h11 : Nat → Nat → Int) (n12 : Nat) (g12 : Nat → Nat → Int) (n13 : Nat) (g13 : Nat → Nat → Int) (h13 : Nat → Nat → Int) : Tr (Ex × List At) :=
 .br 47 (Decidable.decide (x2 < (↑x1 : Int)))
 (.br 50 (Decidable.decide (x2 < (120 : Int)))
 (.br 55 (Go.AM.within x2 x1)
 (.br 0 (Go.Proofs.Ythgagehgiooklaa.G.ok_kind (g3 (x0 + Int.toNat x2) (0 : Nat)) (12 : Int))
 (.br 59 (Go.Proofs.Ythgagehgiooklaa.G.r_kind_0 (g3 (x0 + Int.toNat x2) (0 : Nat)) (12 : Int) == (11 : Int))
 (.br 0 (Go.Proofs.Ythgagehgiooklaa.G.pdec (Go.Proofs.Ythgagehgiooklaa.G.Mem.Ok (1000000 : Int) { n := n11, g := g11, h := h11, off := x4, burns := x5, left := x6, steps := x7 } ∧ (0 : Nat) < n11))
 (.br 0 (Go.Proofs.Ythgagehgiooklaa.G.pdec (Go.Proofs.Ythgagehgiooklaa.G.Mem.Ok (900000 : Int) { n := n11, g := g11, h := h11, off := x4, burns := x5, left := x6, steps := x7 }))
 (.br 0 (Go.Proofs.Ythgagehgiooklaa.G.pdec (Go.Proofs.Ythgagehgiooklaa.G.Mem.Ok (900000 : Int) (Go.Proofs.Ythgagehgiooklaa.G.Mem.stM { n := n11, g := g11, h := h11, off := x4, burns := x5, left := x6, steps := x7 } (1 : Int) (1 : Int) (77 : Int))))
 (.br 0 (Go.Proofs.Ythgagehgiooklaa.G.pdec (Go.Proofs.Ythgagehgiooklaa.G.Mem.Ok (900000 : Int) (Go.Proofs.Ythgagehgiooklaa.G.Mem.flM (Go.Proofs.Ythgagehgiooklaa.G.Mem.stM { n := n11, g := g11, h := h11, off := x4, burns := x5, left := x6, steps := x7 } (1 : Int) (1 : Int) (77 : Int)) (0 : Int) (1 : Int))))
 (.br 0 (Go.Proofs.Ythgagehgiooklaa.G.pdec (Go.Proofs.Ythgagehgiooklaa.G.Mem.Ok (900000 : Int) (Go.Proofs.Ythgagehgiooklaa.G.Mem.feM (Go.Proofs.Ythgagehgiooklaa.G.Mem.flM (Go.Proofs.Ythgagehgiooklaa.G.Mem.stM { n := n11, g := g11, h := h11, off := x4, burns := x5, left := x6, steps := x7 } (1 : Int) (1 : Int) (77 : Int)) (0 : Int) (1 : Int)) (0 : Int))))
 (.br 0 (Go.Proofs.Ythgagehgiooklaa.G.pdec (Go.Proofs.Ythgagehgiooklaa.G.KeepOk (fun (_ : Nat) => (0 : Int)) (0 : Nat)))
 (.br 77 (Go.AM.within x2 x1)
 (.br 0 (Go.Proofs.Ythgagehgiooklaa.G.pdec (Go.Proofs.Ythgagehgiooklaa.G.doPre (g3 (x0 + Int.toNat x2) (0 : Nat)) (g3 (x0 + Int.toNat x2) (1 : Nat)) (g3 (x0 + Int.toNat x2) (2 : Nat)) (g3 (x0 + Int.toNat x2) (3 : Nat)) (g3 (x0 + Int.toNat x2) (4 : Nat)) (fun (j : Nat) => h3 (x0 + Int.toNat x2) (((0 : Nat) + j) * (1 : Nat) + (0 : Nat))) (Int.toNat (g3 (x0 + Int.toNat x2) (5 : Nat))) { n := n11, g := g11, h := h11, off := x4, burns := x5, left := x6, steps := x7 } { n := n12, S := g12, k := n13, G := g13, L := h13, off := x8, left := x9, count := x10 }))
 (.br 91 ((NvmPlays_9_c2 x0 x2 g3 h3 x4 x5 x6 x7 x8 x9 x10 n11 g11 h11 n12 g12 n13 g13 h13))
 (.ok (.ret, [(.b (Bool.false))]))
 (.br 100 ((NvmPlays_9_c1 x0 x2 g3 h3 x4 x5 x6 x7 x8 x9 x10 n11 g11 h11 n12 g12 n13 g13 h13))
 (.ok (.ret, [(.b (Bool.false))]))
 (.br 109 ((NvmPlays_9_c0 x0 x2 g3 h3 x4 x5 x6 x7 x8 x9 x10 n11 g11 h11 n12 g12 n13 g13 h13))
 (.ok (.ret, [(.b (Bool.false))]))
 (.ok (.normal, [(.n (x0)), (.n (x1)), (.i (Go.IntKind.wrap Go.IntKind.i64 (x2 + (1 : Int)))), (.q (n3) (g3) ((5 : Nat)) ((1 : Nat)) (h3)), (.b ((Go.Proofs.Ythgagehgiooklaa.G.doM (Go.Proofs.Ythgagehgiooklaa.G.r_kind_0 (g3 (x0 + Int.toNat x2) (0 : Nat)) (12 : Int)) (g3 (x0 + Int.toNat x2) (1 : Nat)) (g3 (x0 + Int.toNat x2) (2 : Nat)) (g3 (x0 + Int.toNat x2) (3 : Nat)) (g3 (x0 + Int.toNat x2) (4 : Nat)) (fun (j : Nat) => h3 (x0 + Int.toNat x2) (((0 : Nat) + j) * (1 : Nat) + (0 : Nat))) (Int.toNat (g3 (x0 + Int.toNat x2) (5 : Nat))) { n := n11, g := g11, h := h11, off := x4, burns := x5, left := x6, steps := x7 }).off)), (.b ((Go.Proofs.Ythgagehgiooklaa.G.doM (Go.Proofs.Ythgagehgiooklaa.G.r_kind_0 (g3 (x0 + Int.toNat x2) (0 : Nat)) (12 : Int)) (g3 (x0 + Int.toNat x2) (1 : Nat)) (g3 (x0 + Int.toNat x2) (2 : Nat)) (g3 (x0 + Int.toNat x2) (3 : Nat)) (g3 (x0 + Int.toNat x2) (4 : Nat)) (fun (j : Nat) => h3 (x0 + Int.toNat x2) (((0 : Nat) + j) * (1 : Nat) + (0 : Nat))) (Int.toNat (g3 (x0 + Int.toNat x2) (5 : Nat))) { n := n11, g := g11, h := h11, off := x4, burns := x5, left := x6, steps := x7 }).burns)), (.i ((Go.Proofs.Ythgagehgiooklaa.G.doM (Go.Proofs.Ythgagehgiooklaa.G.r_kind_0 (g3 (x0 + Int.toNat x2) (0 : Nat)) (12 : Int)) (g3 (x0 + Int.toNat x2) (1 : Nat)) (g3 (x0 + Int.toNat x2) (2 : Nat)) (g3 (x0 + Int.toNat x2) (3 : Nat)) (g3 (x0 + Int.toNat x2) (4 : Nat)) (fun (j : Nat) => h3 (x0 + Int.toNat x2) (((0 : Nat) + j) * (1 : Nat) + (0 : Nat))) (Int.toNat (g3 (x0 + Int.toNat x2) (5 : Nat))) { n := n11, g := g11, h := h11, off := x4, burns := x5, left := x6, steps := x7 }).left)), (.i ((Go.Proofs.Ythgagehgiooklaa.G.doM (Go.Proofs.Ythgagehgiooklaa.G.r_kind_0 (g3 (x0 + Int.toNat x2) (0 : Nat)) (12 : Int)) (g3 (x0 + Int.toNat x2) (1 : Nat)) (g3 (x0 + Int.toNat x2) (2 : Nat)) (g3 (x0 + Int.toNat x2) (3 : Nat)) (g3 (x0 + Int.toNat x2) (4 : Nat)) (fun (j : Nat) => h3 (x0 + Int.toNat x2) (((0 : Nat) + j) * (1 : Nat) + (0 : Nat))) (Int.toNat (g3 (x0 + Int.toNat x2) (5 : Nat))) { n := n11, g := g11, h := h11, off := x4, burns := x5, left := x6, steps := x7 }).steps)), (.b ((Go.Proofs.Ythgagehgiooklaa.G.doR (Go.Proofs.Ythgagehgiooklaa.G.r_kind_0 (g3 (x0 + Int.toNat x2) (0 : Nat)) (12 : Int)) (g3 (x0 + Int.toNat x2) (1 : Nat)) (g3 (x0 + Int.toNat x2) (2 : Nat)) (g3 (x0 + Int.toNat x2) (3 : Nat)) (g3 (x0 + Int.toNat x2) (4 : Nat)) (fun (j : Nat) => h3 (x0 + Int.toNat x2) (((0 : Nat) + j) * (1 : Nat) + (0 : Nat))) (Int.toNat (g3 (x0 + Int.toNat x2) (5 : Nat))) { n := n12, S := g12, k := n13, G := g13, L := h13, off := x8, left := x9, count := x10 }).off)), (.i ((Go.Proofs.Ythgagehgiooklaa.G.doR (Go.Proofs.Ythgagehgiooklaa.G.r_kind_0 (g3 (x0 + Int.toNat x2) (0 : Nat)) (12 : Int)) (g3 (x0 + Int.toNat x2) (1 : Nat)) (g3 (x0 + Int.toNat x2) (2 : Nat)) (g3 (x0 + Int.toNat x2) (3 : Nat)) (g3 (x0 + Int.toNat x2) (4 : Nat)) (fun (j : Nat) => h3 (x0 + Int.toNat x2) (((0 : Nat) + j) * (1 : Nat) + (0 : Nat))) (Int.toNat (g3 (x0 + Int.toNat x2) (5 : Nat))) { n := n12, S := g12, k := n13, G := g13, L := h13, off := x8, left := x9, count := x10 }).left)), (.i ((Go.Proofs.Ythgagehgiooklaa.G.doR (Go.Proofs.Ythgagehgiooklaa.G.r_kind_0 (g3 (x0 + Int.toNat x2) (0 : Nat)) (12 : Int)) (g3 (x0 + Int.toNat x2) (1 : Nat)) (g3 (x0 + Int.toNat x2) (2 : Nat)) (g3 (x0 + Int.toNat x2) (3 : Nat)) (g3 (x0 + Int.toNat x2) (4 : Nat)) (fun (j : Nat) => h3 (x0 + Int.toNat x2) (((0 : Nat) + j) * (1 : Nat) + (0 : Nat))) (Int.toNat (g3 (x0 + Int.toNat x2) (5 : Nat))) { n := n12, S := g12, k := n13, G := g13, L := h13, off := x8, left := x9, count := x10 }).count)), (.q ((Go.Proofs.Ythgagehgiooklaa.G.doM (Go.Proofs.Ythgagehgiooklaa.G.r_kind_0 (g3 (x0 + Int.toNat x2) (0 : Nat)) (12 : Int)) (g3 (x0 + Int.toNat x2) (1 : Nat)) (g3 (x0 + Int.toNat x2) (2 : Nat)) (g3 (x0 + Int.toNat x2) (3 : Nat)) (g3 (x0 + Int.toNat x2) (4 : Nat)) (fun (j : Nat) => h3 (x0 + Int.toNat x2) (((0 : Nat) + j) * (1 : Nat) + (0 : Nat))) (Int.toNat (g3 (x0 + Int.toNat x2) (5 : Nat))) { n := n11, g := g11, h := h11, off := x4, burns := x5, left := x6, steps := x7 }).n) ((Go.Proofs.Ythgagehgiooklaa.G.doM (Go.Proofs.Ythgagehgiooklaa.G.r_kind_0 (g3 (x0 + Int.toNat x2) (0 : Nat)) (12 : Int)) (g3 (x0 + Int.toNat x2) (1 : Nat)) (g3 (x0 + Int.toNat x2) (2 : Nat)) (g3 (x0 + Int.toNat x2) (3 : Nat)) (g3 (x0 + Int.toNat x2) (4 : Nat)) (fun (j : Nat) => h3 (x0 + Int.toNat x2) (((0 : Nat) + j) * (1 : Nat) + (0 : Nat))) (Int.toNat (g3 (x0 + Int.toNat x2) (5 : Nat))) { n := n11, g := g11, h := h11, off := x4, burns := x5, left := x6, steps := x7 }).g) ((16 : Nat)) ((2 : Nat)) ((Go.Proofs.Ythgagehgiooklaa.G.doM (Go.Proofs.Ythgagehgiooklaa.G.r_kind_0 (g3 (x0 + Int.toNat x2) (0 : Nat)) (12 : Int)) (g3 (x0 + Int.toNat x2) (1 : Nat)) (g3 (x0 + Int.toNat x2) (2 : Nat)) (g3 (x0 + Int.toNat x2) (3 : Nat)) (g3 (x0 + Int.toNat x2) (4 : Nat)) (fun (j : Nat) => h3 (x0 + Int.toNat x2) (((0 : Nat) + j) * (1 : Nat) + (0 : Nat))) (Int.toNat (g3 (x0 + Int.toNat x2) (5 : Nat))) { n := n11, g := g11, h := h11, off := x4, burns := x5, left := x6, steps := x7 }).h)), (.r ((Go.Proofs.Ythgagehgiooklaa.G.doR (Go.Proofs.Ythgagehgiooklaa.G.r_kind_0 (g3 (x0 + Int.toNat x2) (0 : Nat)) (12 : Int)) (g3 (x0 + Int.toNat x2) (1 : Nat)) (g3 (x0 + Int.toNat x2) (2 : Nat)) (g3 (x0 + Int.toNat x2) (3 : Nat)) (g3 (x0 + Int.toNat x2) (4 : Nat)) (fun (j : Nat) => h3 (x0 + Int.toNat x2) (((0 : Nat) + j) * (1 : Nat) + (0 : Nat))) (Int.toNat (g3 (x0 + Int.toNat x2) (5 : Nat))) { n := n12, S := g12, k := n13, G := g13, L := h13, off := x8, left := x9, count := x10 }).n) ((Go.Proofs.Ythgagehgiooklaa.G.doR (Go.Proofs.Ythgagehgiooklaa.G.r_kind_0 (g3 (x0 + Int.toNat x2) (0 : Nat)) (12 : Int)) (g3 (x0 + Int.toNat x2) (1 : Nat)) (g3 (x0 + Int.toNat x2) (2 : Nat)) (g3 (x0 + Int.toNat x2) (3 : Nat)) (g3 (x0 + Int.toNat x2) (4 : Nat)) (fun (j : Nat) => h3 (x0 + Int.toNat x2) (((0 : Nat) + j) * (1 : Nat) + (0 : Nat))) (Int.toNat (g3 (x0 + Int.toNat x2) (5 : Nat))) { n := n12, S := g12, k := n13, G := g13, L := h13, off := x8, left := x9, count := x10 }).S)), (.q ((Go.Proofs.Ythgagehgiooklaa.G.doR (Go.Proofs.Ythgagehgiooklaa.G.r_kind_0 (g3 (x0 + Int.toNat x2) (0 : Nat)) (12 : Int)) (g3 (x0 + Int.toNat x2) (1 : Nat)) (g3 (x0 + Int.toNat x2) (2 : Nat)) (g3 (x0 + Int.toNat x2) (3 : Nat)) (g3 (x0 + Int.toNat x2) (4 : Nat)) (fun (j : Nat) => h3 (x0 + Int.toNat x2) (((0 : Nat) + j) * (1 : Nat) + (0 : Nat))) (Int.toNat (g3 (x0 + Int.toNat x2) (5 : Nat))) { n := n12, S := g12, k := n13, G := g13, L := h13, off := x8, left := x9, count := x10 }).k) ((Go.Proofs.Ythgagehgiooklaa.G.doR (Go.Proofs.Ythgagehgiooklaa.G.r_kind_0 (g3 (x0 + Int.toNat x2) (0 : Nat)) (12 : Int)) (g3 (x0 + Int.toNat x2) (1 : Nat)) (g3 (x0 + Int.toNat x2) (2 : Nat)) (g3 (x0 + Int.toNat x2) (3 : Nat)) (g3 (x0 + Int.toNat x2) (4 : Nat)) (fun (j : Nat) => h3 (x0 + Int.toNat x2) (((0 : Nat) + j) * (1 : Nat) + (0 : Nat))) (Int.toNat (g3 (x0 + Int.toNat x2) (5 : Nat))) { n := n12, S := g12, k := n13, G := g13, L := h13, off := x8, left := x9, count := x10 }).G) ((0 : Nat)) ((10 : Nat)) ((Go.Proofs.Ythgagehgiooklaa.G.doR (Go.Proofs.Ythgagehgiooklaa.G.r_kind_0 (g3 (x0 + Int.toNat x2) (0 : Nat)) (12 : Int)) (g3 (x0 + Int.toNat x2) (1 : Nat)) (g3 (x0 + Int.toNat x2) (2 : Nat)) (g3 (x0 + Int.toNat x2) (3 : Nat)) (g3 (x0 + Int.toNat x2) (4 : Nat)) (fun (j : Nat) => h3 (x0 + Int.toNat x2) (((0 : Nat) + j) * (1 : Nat) + (0 : Nat))) (Int.toNat (g3 (x0 + Int.toNat x2) (5 : Nat))) { n := n12, S := g12, k := n13, G := g13, L := h13, off := x8, left := x9, count := x10 }).L))])))))
 (.no))
 (.no))
 (.no))
 (.no))
 (.no))
 (.no))
 (.no))
 (.no))
 (.br 77 (Go.AM.within x2 x1)
 (.br 0 (Go.Proofs.Ythgagehgiooklaa.G.pdec (Go.Proofs.Ythgagehgiooklaa.G.doPre (g3 (x0 + Int.toNat x2) (0 : Nat)) (g3 (x0 + Int.toNat x2) (1 : Nat)) (g3 (x0 + Int.toNat x2) (2 : Nat)) (g3 (x0 + Int.toNat x2) (3 : Nat)) (g3 (x0 + Int.toNat x2) (4 : Nat)) (fun (j : Nat) => h3 (x0 + Int.toNat x2) (((0 : Nat) + j) * (1 : Nat) + (0 : Nat))) (Int.toNat (g3 (x0 + Int.toNat x2) (5 : Nat))) { n := n11, g := g11, h := h11, off := x4, burns := x5, left := x6, steps := x7 } { n := n12, S := g12, k := n13, G := g13, L := h13, off := x8, left := x9, count := x10 }))
 (.br 91 ((NvmPlays_9_c2 x0 x2 g3 h3 x4 x5 x6 x7 x8 x9 x10 n11 g11 h11 n12 g12 n13 g13 h13))
 (.ok (.ret, [(.b (Bool.false))]))
 (.br 100 ((NvmPlays_9_c1 x0 x2 g3 h3 x4 x5 x6 x7 x8 x9 x10 n11 g11 h11 n12 g12 n13 g13 h13))
 (.ok (.ret, [(.b (Bool.false))]))
 (.br 109 ((NvmPlays_9_c0 x0 x2 g3 h3 x4 x5 x6 x7 x8 x9 x10 n11 g11 h11 n12 g12 n13 g13 h13))
 (.ok (.ret, [(.b (Bool.false))]))
 (.ok (.normal, [(.n (x0)), (.n (x1)), (.i (Go.IntKind.wrap Go.IntKind.i64 (x2 + (1 : Int)))), (.q (n3) (g3) ((5 : Nat)) ((1 : Nat)) (h3)), (.b ((Go.Proofs.Ythgagehgiooklaa.G.doM (Go.Proofs.Ythgagehgiooklaa.G.r_kind_0 (g3 (x0 + Int.toNat x2) (0 : Nat)) (12 : Int)) (g3 (x0 + Int.toNat x2) (1 : Nat)) (g3 (x0 + Int.toNat x2) (2 : Nat)) (g3 (x0 + Int.toNat x2) (3 : Nat)) (g3 (x0 + Int.toNat x2) (4 : Nat)) (fun (j : Nat) => h3 (x0 + Int.toNat x2) (((0 : Nat) + j) * (1 : Nat) + (0 : Nat))) (Int.toNat (g3 (x0 + Int.toNat x2) (5 : Nat))) { n := n11, g := g11, h := h11, off := x4, burns := x5, left := x6, steps := x7 }).off)), (.b ((Go.Proofs.Ythgagehgiooklaa.G.doM (Go.Proofs.Ythgagehgiooklaa.G.r_kind_0 (g3 (x0 + Int.toNat x2) (0 : Nat)) (12 : Int)) (g3 (x0 + Int.toNat x2) (1 : Nat)) (g3 (x0 + Int.toNat x2) (2 : Nat)) (g3 (x0 + Int.toNat x2) (3 : Nat)) (g3 (x0 + Int.toNat x2) (4 : Nat)) (fun (j : Nat) => h3 (x0 + Int.toNat x2) (((0 : Nat) + j) * (1 : Nat) + (0 : Nat))) (Int.toNat (g3 (x0 + Int.toNat x2) (5 : Nat))) { n := n11, g := g11, h := h11, off := x4, burns := x5, left := x6, steps := x7 }).burns)), (.i ((Go.Proofs.Ythgagehgiooklaa.G.doM (Go.Proofs.Ythgagehgiooklaa.G.r_kind_0 (g3 (x0 + Int.toNat x2) (0 : Nat)) (12 : Int)) (g3 (x0 + Int.toNat x2) (1 : Nat)) (g3 (x0 + Int.toNat x2) (2 : Nat)) (g3 (x0 + Int.toNat x2) (3 : Nat)) (g3 (x0 + Int.toNat x2) (4 : Nat)) (fun (j : Nat) => h3 (x0 + Int.toNat x2) (((0 : Nat) + j) * (1 : Nat) + (0 : Nat))) (Int.toNat (g3 (x0 + Int.toNat x2) (5 : Nat))) { n := n11, g := g11, h := h11, off := x4, burns := x5, left := x6, steps := x7 }).left)), (.i ((Go.Proofs.Ythgagehgiooklaa.G.doM (Go.Proofs.Ythgagehgiooklaa.G.r_kind_0 (g3 (x0 + Int.toNat x2) (0 : Nat)) (12 : Int)) (g3 (x0 + Int.toNat x2) (1 : Nat)) (g3 (x0 + Int.toNat x2) (2 : Nat)) (g3 (x0 + Int.toNat x2) (3 : Nat)) (g3 (x0 + Int.toNat x2) (4 : Nat)) (fun (j : Nat) => h3 (x0 + Int.toNat x2) (((0 : Nat) + j) * (1 : Nat) + (0 : Nat))) (Int.toNat (g3 (x0 + Int.toNat x2) (5 : Nat))) { n := n11, g := g11, h := h11, off := x4, burns := x5, left := x6, steps := x7 }).steps)), (.b ((Go.Proofs.Ythgagehgiooklaa.G.doR (Go.Proofs.Ythgagehgiooklaa.G.r_kind_0 (g3 (x0 + Int.toNat x2) (0 : Nat)) (12 : Int)) (g3 (x0 + Int.toNat x2) (1 : Nat)) (g3 (x0 + Int.toNat x2) (2 : Nat)) (g3 (x0 + Int.toNat x2) (3 : Nat)) (g3 (x0 + Int.toNat x2) (4 : Nat)) (fun (j : Nat) => h3 (x0 + Int.toNat x2) (((0 : Nat) + j) * (1 : Nat) + (0 : Nat))) (Int.toNat (g3 (x0 + Int.toNat x2) (5 : Nat))) { n := n12, S := g12, k := n13, G := g13, L := h13, off := x8, left := x9, count := x10 }).off)), (.i ((Go.Proofs.Ythgagehgiooklaa.G.doR (Go.Proofs.Ythgagehgiooklaa.G.r_kind_0 (g3 (x0 + Int.toNat x2) (0 : Nat)) (12 : Int)) (g3 (x0 + Int.toNat x2) (1 : Nat)) (g3 (x0 + Int.toNat x2) (2 : Nat)) (g3 (x0 + Int.toNat x2) (3 : Nat)) (g3 (x0 + Int.toNat x2) (4 : Nat)) (fun (j : Nat) => h3 (x0 + Int.toNat x2) (((0 : Nat) + j) * (1 : Nat) + (0 : Nat))) (Int.toNat (g3 (x0 + Int.toNat x2) (5 : Nat))) { n := n12, S := g12, k := n13, G := g13, L := h13, off := x8, left := x9, count := x10 }).left)), (.i ((Go.Proofs.Ythgagehgiooklaa.G.doR (Go.Proofs.Ythgagehgiooklaa.G.r_kind_0 (g3 (x0 + Int.toNat x2) (0 : Nat)) (12 : Int)) (g3 (x0 + Int.toNat x2) (1 : Nat)) (g3 (x0 + Int.toNat x2) (2 : Nat)) (g3 (x0 + Int.toNat x2) (3 : Nat)) (g3 (x0 + Int.toNat x2) (4 : Nat)) (fun (j : Nat) => h3 (x0 + Int.toNat x2) (((0 : Nat) + j) * (1 : Nat) + (0 : Nat))) (Int.toNat (g3 (x0 + Int.toNat x2) (5 : Nat))) { n := n12, S := g12, k := n13, G := g13, L := h13, off := x8, left := x9, count := x10 }).count)), (.q ((Go.Proofs.Ythgagehgiooklaa.G.doM (Go.Proofs.Ythgagehgiooklaa.G.r_kind_0 (g3 (x0 + Int.toNat x2) (0 : Nat)) (12 : Int)) (g3 (x0 + Int.toNat x2) (1 : Nat)) (g3 (x0 + Int.toNat x2) (2 : Nat)) (g3 (x0 + Int.toNat x2) (3 : Nat)) (g3 (x0 + Int.toNat x2) (4 : Nat)) (fun (j : Nat) => h3 (x0 + Int.toNat x2) (((0 : Nat) + j) * (1 : Nat) + (0 : Nat))) (Int.toNat (g3 (x0 + Int.toNat x2) (5 : Nat))) { n := n11, g := g11, h := h11, off := x4, burns := x5, left := x6, steps := x7 }).n) ((Go.Proofs.Ythgagehgiooklaa.G.doM (Go.Proofs.Ythgagehgiooklaa.G.r_kind_0 (g3 (x0 + Int.toNat x2) (0 : Nat)) (12 : Int)) (g3 (x0 + Int.toNat x2) (1 : Nat)) (g3 (x0 + Int.toNat x2) (2 : Nat)) (g3 (x0 + Int.toNat x2) (3 : Nat)) (g3 (x0 + Int.toNat x2) (4 : Nat)) (fun (j : Nat) => h3 (x0 + Int.toNat x2) (((0 : Nat) + j) * (1 : Nat) + (0 : Nat))) (Int.toNat (g3 (x0 + Int.toNat x2) (5 : Nat))) { n := n11, g := g11, h := h11, off := x4, burns := x5, left := x6, steps := x7 }).g) ((16 : Nat)) ((2 : Nat)) ((Go.Proofs.Ythgagehgiooklaa.G.doM (Go.Proofs.Ythgagehgiooklaa.G.r_kind_0 (g3 (x0 + Int.toNat x2) (0 : Nat)) (12 : Int)) (g3 (x0 + Int.toNat x2) (1 : Nat)) (g3 (x0 + Int.toNat x2) (2 : Nat)) (g3 (x0 + Int.toNat x2) (3 : Nat)) (g3 (x0 + Int.toNat x2) (4 : Nat)) (fun (j : Nat) => h3 (x0 + Int.toNat x2) (((0 : Nat) + j) * (1 : Nat) + (0 : Nat))) (Int.toNat (g3 (x0 + Int.toNat x2) (5 : Nat))) { n := n11, g := g11, h := h11, off := x4, burns := x5, left := x6, steps := x7 }).h)), (.r ((Go.Proofs.Ythgagehgiooklaa.G.doR (Go.Proofs.Ythgagehgiooklaa.G.r_kind_0 (g3 (x0 + Int.toNat x2) (0 : Nat)) (12 : Int)) (g3 (x0 + Int.toNat x2) (1 : Nat)) (g3 (x0 + Int.toNat x2) (2 : Nat)) (g3 (x0 + Int.toNat x2) (3 : Nat)) (g3 (x0 + Int.toNat x2) (4 : Nat)) (fun (j : Nat) => h3 (x0 + Int.toNat x2) (((0 : Nat) + j) * (1 : Nat) + (0 : Nat))) (Int.toNat (g3 (x0 + Int.toNat x2) (5 : Nat))) { n := n12, S := g12, k := n13, G := g13, L := h13, off := x8, left := x9, count := x10 }).n) ((Go.Proofs.Ythgagehgiooklaa.G.doR (Go.Proofs.Ythgagehgiooklaa.G.r_kind_0 (g3 (x0 + Int.toNat x2) (0 : Nat)) (12 : Int)) (g3 (x0 + Int.toNat x2) (1 : Nat)) (g3 (x0 + Int.toNat x2) (2 : Nat)) (g3 (x0 + Int.toNat x2) (3 : Nat)) (g3 (x0 + Int.toNat x2) (4 : Nat)) (fun (j : Nat) => h3 (x0 + Int.toNat x2) (((0 : Nat) + j) * (1 : Nat) + (0 : Nat))) (Int.toNat (g3 (x0 + Int.toNat x2) (5 : Nat))) { n := n12, S := g12, k := n13, G := g13, L := h13, off := x8, left := x9, count := x10 }).S)), (.q ((Go.Proofs.Ythgagehgiooklaa.G.doR (Go.Proofs.Ythgagehgiooklaa.G.r_kind_0 (g3 (x0 + Int.toNat x2) (0 : Nat)) (12 : Int)) (g3 (x0 + Int.toNat x2) (1 : Nat)) (g3 (x0 + Int.toNat x2) (2 : Nat)) (g3 (x0 + Int.toNat x2) (3 : Nat)) (g3 (x0 + Int.toNat x2) (4 : Nat)) (fun (j : Nat) => h3 (x0 + Int.toNat x2) (((0 : Nat) + j) * (1 : Nat) + (0 : Nat))) (Int.toNat (g3 (x0 + Int.toNat x2) (5 : Nat))) { n := n12, S := g12, k := n13, G := g13, L := h13, off := x8, left := x9, count := x10 }).k) ((Go.Proofs.Ythgagehgiooklaa.G.doR (Go.Proofs.Ythgagehgiooklaa.G.r_kind_0 (g3 (x0 + Int.toNat x2) (0 : Nat)) (12 : Int)) (g3 (x0 + Int.toNat x2) (1 : Nat)) (g3 (x0 + Int.toNat x2) (2 : Nat)) (g3 (x0 + Int.toNat x2) (3 : Nat)) (g3 (x0 + Int.toNat x2) (4 : Nat)) (fun (j : Nat) => h3 (x0 + Int.toNat x2) (((0 : Nat) + j) * (1 : Nat) + (0 : Nat))) (Int.toNat (g3 (x0 + Int.toNat x2) (5 : Nat))) { n := n12, S := g12, k := n13, G := g13, L := h13, off := x8, left := x9, count := x10 }).G) ((0 : Nat)) ((10 : Nat)) ((Go.Proofs.Ythgagehgiooklaa.G.doR (Go.Proofs.Ythgagehgiooklaa.G.r_kind_0 (g3 (x0 + Int.toNat x2) (0 : Nat)) (12 : Int)) (g3 (x0 + Int.toNat x2) (1 : Nat)) (g3 (x0 + Int.toNat x2) (2 : Nat)) (g3 (x0 + Int.toNat x2) (3 : Nat)) (g3 (x0 + Int.toNat x2) (4 : Nat)) (fun (j : Nat) => h3 (x0 + Int.toNat x2) (((0 : Nat) + j) * (1 : Nat) + (0 : Nat))) (Int.toNat (g3 (x0 + Int.toNat x2) (5 : Nat))) { n := n12, S := g12, k := n13, G := g13, L := h13, off := x8, left := x9, count := x10 }).L))])))))
 (.no))
 (.no)))
 (.no))
 (.no))
 (.ok (.exit 0, [(.b (x4)), (.b (x5)), (.i (x6)), (.i (x7)), (.b (x8)), (.i (x9)), (.i (x10)), (.q (n11) (g11) ((16 : Nat)) ((2 : Nat)) (h11)), (.r (n12) (g12)), (.q (n13) (g13) ((0 : Nat)) ((10 : Nat)) (h13))])))
 (.ok (.exit 0, [(.b (x4)), (.b (x5)), (.i (x6)), (.i (x7)), (.b (x8)), (.i (x9)), (.i (x10)), (.q (n11) (g11) ((16 : Nat)) ((2 : Nat)) (h11)), (.r (n12) (g12)), (.q (n13) (g13) ((0 : Nat)) ((10 : Nat)) (h13))]))
noncomputable def y_NvmPlays_9 : Nat → Option Nat := (syOf3 [47, 50, 55, 59, 77, 91, 100, 109] [] [])
noncomputable def BL_NvmPlays_9 (l : List At) : Tr (Ex × List At) := B_NvmPlays_9 (aN l 0) (aN l 1) (aI l 2) (aRn l 3) (aRg l 3) (aMh l 3 5 1) (aB l 4) (aB l 5) (aI l 6) (aI l 7) (aB l 8) (aI l 9) (aI l 10) (aRn l 11) (aRg l 11) (aMh l 11 16 2) (aRn l 12) (aRg l 12) (aRn l 13) (aRg l 13) (aMh l 13 0 10)
theorem eB_NvmPlays_9 (l : List At) : (exec Try.prog (upd Γ_D2 24 (.read (locR ish_same osh_same F_same))) y_NvmPlays_9 noLoops 100 (loopAt Try.f11 9) ⟨mkV lsh_NvmPlays_9 l, mkH lsh_NvmPlays_9 l⟩).bind (leafL 2 xs_NvmPlays_9) = BL_NvmPlays_9 l := by kernel_rfl
/- by hand: O_NvmPlays_9 (x0 : Nat) (x1 : Nat) (x2 : Int) (n3 : Nat) (g3 : Nat → Nat → Int) (h3 : Nat → Nat → Int) (x4 : Bool) (x5 : Bool) (x6 : Int) (x7 : Int) (x8 : Bool) (x9 : Int) (x10 : Int) (n11 : Nat) (g11 : Nat → Nat → Int) (h11 : Nat → Nat → Int) (n12 : Nat) (g12 : Nat → Nat → Int) (n13 : Nat) (g13 : Nat → Nat → Int) (h13 : Nat → Nat → Int) : Tr (Ex × List At); OL_NvmPlays_9 (l) := O_NvmPlays_9 (aN l 0) (aN l 1) (aI l 2) (aRn l 3) (aRg l 3) (aMh l 3 5 1) (aB l 4) (aB l 5) (aI l 6) (aI l 7) (aB l 8) (aI l 9) (aI l 10) (aRn l 11) (aRg l 11) (aMh l 11 16 2) (aRn l 12) (aRg l 12) (aRn l 13) (aRg l 13) (aMh l 13 0 10); μ_NvmPlays_9 : List At → Nat; rd_NvmPlays_9 : ∀ l r, (OL_NvmPlays_9 l).val = some r → RoundA BL_NvmPlays_9 OL_NvmPlays_9 μ_NvmPlays_9 l r -/

end Go.Proofs.Ythgagehgiooklaa.G
end

/-
  The loop of NvmPlays: any calls of both, clones too.
-/
section
namespace Go.Proofs.Ythgagehgiooklaa.G
open Go Go.AM Go.Proofs

def plM (G H : Nat → Nat → Int) : (m i : Nat) → Mem → Mem
  | 0, _, M => M
  | m + 1, i, M => plM G H m (i + 1) (doM (r_kind_0 (G i 0) 12) (G i 1) (G i 2) (G i 3) (G i 4) (fun j => H i ((0 + j) * 1 + 0)) (G i 5).toNat M)
def plR (G H : Nat → Nat → Int) : (m i : Nat) → RMem → RMem
  | 0, _, Y => Y
  | m + 1, i, Y => plR G H m (i + 1) (doR (r_kind_0 (G i 0) 12) (G i 1) (G i 2) (G i 3) (G i 4) (fun j => H i ((0 + j) * 1 + 0)) (G i 5).toNat Y)

theorem doM_n {k c i w v : Int} {q : Nat → Int} {kn : Nat} {m : Mem} : (doM k c i w v q kn m).n = m.n := by
  unfold doM
  split
  · exact stM_n
  · split
    · exact flM_n
    · split
      · exact feM_n
      · split
        · exact evM_n
        · split
          · rfl
          · split <;> rfl

def prePl (x1 : Nat) (x2 : Int) (G H : Nat → Nat → Int) (m : Mem) (y : RMem) : Prop :=
  (0 ≤ x2 ∧ x2 ≤ x1 ∧ x2 ≤ 120) ∧ Two (700000 + x2) m y ∧ 0 < m.n ∧ (∀ i c, i < x1 → c < 4 → -9223372036854775808 ≤ G i c ∧ G i c ≤ 9223372036854775807) ∧ ∀ i, i < x1 → KeepOk (fun j => H i ((0 + j) * 1 + 0)) (G i 5).toNat

noncomputable def O_NvmPlays_9 (x0 x1 : Nat) (x2 : Int) (g3 h3 : Nat → Nat → Int) (m : Mem) (y : RMem) : Tr (Ex × List At) :=
  .br 0 (pdec (prePl x1 x2 (fun i => g3 (x0 + i)) (fun i => h3 (x0 + i)) m y)) (.ok (.exit 0, bothA (plM (fun i => g3 (x0 + i)) (fun i => h3 (x0 + i)) (min x1 120 - x2.toNat) x2.toNat m) (plR (fun i => g3 (x0 + i)) (fun i => h3 (x0 + i)) (min x1 120 - x2.toNat) x2.toNat y))) .no
noncomputable def OL_NvmPlays_9 (l : List At) : Tr (Ex × List At) := O_NvmPlays_9 (aN l 0) (aN l 1) (aI l 2) (aRg l 3) (aMh l 3 5 1) ⟨aRn l 11, aRg l 11, aMh l 11 16 2, aB l 4, aB l 5, aI l 6, aI l 7⟩ ⟨aRn l 12, aRg l 12, aRn l 13, aRg l 13, aMh l 13 0 10, aB l 8, aI l 9, aI l 10⟩
def μ_NvmPlays_9 (l : List At) : Nat := min (aN l 1) 120 - (aI l 2).toNat

theorem rd_NvmPlays_9 : ∀ l r, (OL_NvmPlays_9 l).val = some r → RoundS BL_NvmPlays_9 OL_NvmPlays_9 μ_NvmPlays_9 l r := by
  intro l r hh
  unfold OL_NvmPlays_9 at hh
  obtain ⟨hc, h⟩ := guard_val hh
  clear hh
  obtain ⟨⟨c0, c1, c2⟩, c3, c6, c4, c5⟩ := of_pdec hc
  have hr := val_ok h
  unfold RoundS BL_NvmPlays_9 B_NvmPlays_9 NvmPlays_9_c2 NvmPlays_9_c1 NvmPlays_9_c0
  generalize hx0 : aN l 0 = x0 at *
  generalize hx1 : aN l 1 = x1 at *
  generalize hx2 : aI l 2 = x2 at *
  generalize hg3 : aRg l 3 = g3 at *
  generalize hh3 : aMh l 3 5 1 = h3 at *
  generalize hm : (⟨aRn l 11, aRg l 11, aMh l 11 16 2, aB l 4, aB l 5, aI l 6, aI l 7⟩ : Mem) = m at *
  generalize hy : (⟨aRn l 12, aRg l 12, aRn l 13, aRg l 13, aMh l 13 0 10, aB l 8, aI l 9, aI l 10⟩ : RMem) = y at *
  refine brD (fun h1 => brD (fun h2 => brW (fun _ => ?_) (fun hh => by exfalso; omega)) (fun h2 => ?_)) (fun h1 => ?_)
  · obtain ⟨i, rfl⟩ := Int.eq_ofNat_of_zero_le c0
    rw [Int.toNat_natCast] at h ⊢
    have hw : IntKind.i64.wrap ((i : Int) + 1) = (i : Int) + 1 := wrap_i64 (by omega) (by omega)
    have hμ : min x1 120 - ((i : Int) + 1).toNat < μ_NvmPlays_9 l := by unfold μ_NvmPlays_9; rw [hx1, hx2]; omega
    have e1 : min x1 120 - i = (min x1 120 - ((i : Int) + 1).toNat) + 1 := by omega
    have hrow : ∀ c, c < 4 → -9223372036854775808 ≤ g3 (x0 + i) c ∧ g3 (x0 + i) c ≤ 9223372036854775807 := fun c hcc => c4 i c (by omega) hcc
    have hkeep : KeepOk (fun j => h3 (x0 + i) ((0 + j) * 1 + 0)) (g3 (x0 + i) 5).toNat := c5 i (by omega)
    obtain ⟨q1, q2, q3⟩ := kind_in (n := 12) (hrow 0 (by omega)).1 (hrow 0 (by omega)).2 (by decide) (by decide)
    have tw := two_do c3 (by omega) (k := r_kind_0 (g3 (x0 + i) 0) 12) (c := g3 (x0 + i) 1) (i := g3 (x0 + i) 2) (w := g3 (x0 + i) 3) (v := g3 (x0 + i) 4) (q := fun j => h3 (x0 + i) ((0 + j) * 1 + 0)) (kn := (g3 (x0 + i) 5).toNat) (hrow 3 (by omega))
    rw [e1, plM, plR] at h
    rw [hw]
    have hsd := tw.2.2.2
    have hn' : 0 < (doM (r_kind_0 (g3 (x0 + i) 0) 12) (g3 (x0 + i) 1) (g3 (x0 + i) 2) (g3 (x0 + i) 3) (g3 (x0 + i) 4) (fun j => h3 (x0 + i) ((0 + j) * 1 + 0)) (g3 (x0 + i) 5).toNat m).n := by rw [doM_n]; exact c6
    generalize hM : doM (r_kind_0 (g3 (x0 + i) 0) 12) (g3 (x0 + i) 1) (g3 (x0 + i) 2) (g3 (x0 + i) 3) (g3 (x0 + i) 4) (fun j => h3 (x0 + i) ((0 + j) * 1 + 0)) (g3 (x0 + i) 5).toNat m = M' at *
    generalize hY : doR (r_kind_0 (g3 (x0 + i) 0) 12) (g3 (x0 + i) 1) (g3 (x0 + i) 2) (g3 (x0 + i) 3) (g3 (x0 + i) 4) (fun j => h3 (x0 + i) ((0 + j) * 1 + 0)) (g3 (x0 + i) 5).toNat y = Y' at *
    have hpre : doPre (g3 (x0 + i) 0) (g3 (x0 + i) 1) (g3 (x0 + i) 2) (g3 (x0 + i) 3) (g3 (x0 + i) 4) (fun j => h3 (x0 + i) ((0 + j) * 1 + 0)) (g3 (x0 + i) 5).toNat m y := ⟨c3.mono (by omega), hrow 0 (by omega), hrow 3 (by omega), hkeep⟩
    have hq : prePl x1 ((i : Int) + 1) (fun i => g3 (x0 + i)) (fun i => h3 (x0 + i)) M' Y' := ⟨⟨by omega, by omega, by omega⟩, tw.mono (by omega), hn', c4, c5⟩
    have fin : (Tr.ok (Ex.normal, [At.n x0, .n x1, .i ((i : Int) + 1), .q (aRn l 3) g3 5 1 h3, .b M'.off, .b M'.burns, .i M'.left, .i M'.steps, .b Y'.off, .i Y'.left, .i Y'.count, .q M'.n M'.g 16 2 M'.h, .r Y'.n Y'.S, .q Y'.k Y'.G 0 10 Y'.L])).sat fun p => (p.1 = .normal ∧ ∃ l2 r', AtsEq p.2 l2 ∧ μ_NvmPlays_9 l2 < μ_NvmPlays_9 l ∧ (OL_NvmPlays_9 l2).val = some r' ∧ r'.1 = r.1 ∧ AtsEq r'.2 r.2) ∨ (p.1 ≠ .normal ∧ r.1 = p.1 ∧ AtsEq p.2 r.2) :=
      on_ _ r (AtsEq.refl _) hμ ((br_t (g := 0) (pdec_yes hq)).trans h) rfl (AtsEq.refl _)
    have g1 : ((!M'.off) == Y'.off) = false := by rw [hsd.off]; cases M'.off <;> rfl
    have g2 : (M'.steps != Y'.count) = false := by rw [hsd.steps]; simp
    have g3' : ((M'.n : Int) != (Y'.n : Int)) = false := by rw [hsd.n]; simp
    have s1 := stM_ok (i := 1) (w := 1) (v := 77) c3.1 (by omega)
    have s2 := flM_ok (c := 0) (i := 1) s1
    have s3 := feM_ok (c := 0) s2
    refine brT q1 (brQ (fun k0 => ?_) (fun k0 => ?_))
    · exact brT (pdec_yes ⟨c3.1.mono (by omega), (by have hc6 := c6; rw [← hm] at hc6; exact hc6)⟩) (brT (pdec_yes (c3.1.mono (by omega))) (brT (pdec_yes (s1.mono (by omega))) (brT (pdec_yes (s2.mono (by omega))) (brT (pdec_yes (s3.mono (by omega))) (brT (pdec_yes keepOk_nil) (brT (by simp [within]; omega) (brT (pdec_yes hpre) (brF g1 (brF g2 (brF g3' fin))))))))))
    · exact brT (by simp [within]; omega) (brT (pdec_yes hpre) (brF g1 (brF g2 (brF g3' fin))))
  all_goals
    subst hr
    have e : min x1 120 - x2.toNat = 0 := by omega
    refine out_ (by simp) rfl ?_
    simp only [e, plM, plR]
    rw [← hm, ← hy]
    exact AtsEq.refl _
end Go.Proofs.Ythgagehgiooklaa.G
end

/-
  What functions of the seat compute, printed by a program from the explorer.
-/
section
namespace Go.Proofs.Ythgagehgiooklaa.G
open Go Go.AM Go.Proofs
theorem f_NvmPlays_9 : LoopF Try.prog 2 (loopAt Try.f11 9) (loopFn 2 lsh_NvmPlays_9 xs_NvmPlays_9 OL_NvmPlays_9) :=
  loop_sat (sy := y_NvmPlays_9) (fuel := 100) (Lp := noLoops) (SpecOK.upd o_D2 s_same) mixed (loopsOK_at (noLoops_ok _) 9) rfl eB_NvmPlays_9 rd_NvmPlays_9
noncomputable def Lp_NvmPlays_9 : Loops := Loops.set noLoops 9 (loopFn 2 lsh_NvmPlays_9 xs_NvmPlays_9 OL_NvmPlays_9)
theorem lk_NvmPlays_9 : LoopsFn Try.prog 2 Lp_NvmPlays_9 Try.f11 := loopsFn_set (noLoops_ok _) (by kernel_rfl) f_NvmPlays_9

/-! ### the loop at 26 of NvmPlays -/

noncomputable def lsh_NvmPlays_26 : FSh := ⟨[.any, .any, .any, .any, .any, .any, .v false [.p 2 0], .any, .v false [.p 3 0], .any, .any, .any, .any, .v false [.sw 4 8], .v false [.k .b], .v false [.k (.n .i64)], .any, .any, .any, .any, .any, .any, .any, .any, .any, .any, .any, .any, .any, .any, .any, .any, .any, .any, .any, .any, .any, .any, .any, .any, .any, .any, .any, .any, .any, .any, .any, .any, .any, .any, .any, .any, .any, .any, .any, .any, .any, .any, .any, .any, .any, .any, .any, .any, .any, .any, .any, .any, .any, .any, .any, .any, .any, .any, .any, .any, .any, .any, .any, .any, .any, .any, .any, .any, .any, .any, .any, .any, .any, .any, .any, .any, .any, .any, .any, .any, .any, .any, .any, .any, .any, .any, .any, .any, .any, .any, .any, .any, .any, .any, .any, .any, .any, .any, .any, .any, .any, .any, .any, .any, .any, .any, .any, .any, .any, .any, .any, .any, .any, .any, .any, .any, .any, .any, .any, .any, .any, .any], [.no, .no, .cells [.sw 5 25, .k .b, .k .b, .k (.n .i64), .k (.n .i64)], .cells [.sw 6 8, .sw 7 1, .k .b, .k (.n .i64), .k (.n .i64)], .rows [.n .u64, .n .u64, .n .u64, .n .u64, .n .u64, .n .u64, .n .u64, .n .u64] true, .nrows [.n .u64, .n .u64, .n .u64, .n .u64, .n .u64, .n .u64, .n .u64, .n .u64, .n .u64, .n .u64, .n .u64, .n .u64, .n .u64, .n .u64, .n .u64, .n .u64, .n .i64, .n .i64, .n .i64, .n .i64, .n .i64, .n .i64, .n .i64, .n .i64, .n .i64] 16 [.n .i64, .n .u64] 8 false true, .rows [.n .u64, .n .u64, .n .u64, .n .u64, .n .u64, .n .u64, .n .u64, .n .u64] true, .nrows [.n .i64] 0 [.n .i64, .n .u64, .b, .b, .b, .b, .b, .b, .b, .b] 9 false true, .no, .no]⟩
noncomputable def xsh_NvmPlays_26_0 : FSh := ⟨[.any, .any, .any, .any, .any, .any, .v false [.p 2 0], .any, .v false [.p 3 0], .any, .any, .any, .any, .any, .v false [.k .b], .any, .any, .any, .any, .any, .any, .any, .any, .any, .any, .any, .any, .any, .any, .any, .any, .any, .any, .any, .any, .any, .any, .any, .any, .any, .any, .any, .any, .any, .any, .any, .any, .any, .any, .any, .any, .any, .any, .any, .any, .any, .any, .any, .any, .any, .any, .any, .any, .any, .any, .any, .any, .any, .any, .any, .any, .any, .any, .any, .any, .any, .any, .any, .any, .any, .any, .any, .any, .any, .any, .any, .any, .any, .any, .any, .any, .any, .any, .any, .any, .any, .any, .any, .any, .any, .any, .any, .any, .any, .any, .any, .any, .any, .any, .any, .any, .any, .any, .any, .any, .any, .any, .any, .any, .any, .any, .any, .any, .any, .any, .any, .any, .any, .any, .any, .any, .any, .any, .any, .any, .any, .any, .any], [.no, .no, .cells [.sw 4 25, .k .b, .k .b, .k (.n .i64), .k (.n .i64)], .cells [.sw 5 8, .sw 6 1, .k .b, .k (.n .i64), .k (.n .i64)], .nrows [.n .u64, .n .u64, .n .u64, .n .u64, .n .u64, .n .u64, .n .u64, .n .u64, .n .u64, .n .u64, .n .u64, .n .u64, .n .u64, .n .u64, .n .u64, .n .u64, .n .i64, .n .i64, .n .i64, .n .i64, .n .i64, .n .i64, .n .i64, .n .i64, .n .i64] 16 [.n .i64, .n .u64] 7 false true, .rows [.n .u64, .n .u64, .n .u64, .n .u64, .n .u64, .n .u64, .n .u64, .n .u64] true, .nrows [.n .i64] 0 [.n .i64, .n .u64, .b, .b, .b, .b, .b, .b, .b, .b] 8 false true, .no, .no]⟩
noncomputable def xs_NvmPlays_26 : Exs := fun e => match e with
  | .normal => some lsh_NvmPlays_26
  | .exit n => (match Nat.beq n 2 with | true => some xsh_NvmPlays_26_0 | false => none)
  | .ret => none
noncomputable def B_NvmPlays_26 (x0 : Bool) (x1 : Int) (x2 : Bool) (x3 : Bool) (x4 : Int) (x5 : Int) (x6 : Bool) (x7 : Int) (x8 : Int) (n9 : Nat) (g9 : Nat → Nat → Int) (n10 : Nat) (g10 : Nat → Nat → Int) (h10 : Nat → Nat → Int) (n11 : Nat) (g11 : Nat → Nat → Int) (n12 : Nat) (g12 : Nat → Nat → Int) (h12 : Nat → Nat → Int) : Tr (Ex × List At) :=
 .br 121 (Decidable.decide (x1 < (↑n9 : Int)))
 (.br 127 (Go.AM.within x1 n9)
 (.ok (.normal, [(.b (x0)), (.i (Go.IntKind.wrap Go.IntKind.i64 (x1 + (1 : Int)))), (.b (x2)), (.b (x3)), (.i (x4)), (.i (x5)), (.b (x6)), (.i (x7)), (.i (x8)), (.r (n9) (Go.AM.updG (Go.AM.updG (Go.AM.updG (Go.AM.updG (Go.AM.updG (Go.AM.updG (Go.AM.updG (Go.AM.updG g9 (Int.toNat x1) (0 : Nat) (9 : Int)) (Int.toNat x1) (1 : Nat) (9 : Int)) (Int.toNat x1) (2 : Nat) (0 : Int)) (Int.toNat x1) (3 : Nat) (0 : Int)) (Int.toNat x1) (4 : Nat) (0 : Int)) (Int.toNat x1) (5 : Nat) (0 : Int)) (Int.toNat x1) (6 : Nat) (0 : Int)) (Int.toNat x1) (7 : Nat) (0 : Int))), (.q (n10) (g10) ((16 : Nat)) ((2 : Nat)) (h10)), (.r (n11) (g11)), (.q (n12) (g12) ((0 : Nat)) ((10 : Nat)) (h12))]))
 (.no))
 (.ok (.exit 2, [(.b (x0)), (.b (x2)), (.b (x3)), (.i (x4)), (.i (x5)), (.b (x6)), (.i (x7)), (.i (x8)), (.q (n10) (g10) ((16 : Nat)) ((2 : Nat)) (h10)), (.r (n11) (g11)), (.q (n12) (g12) ((0 : Nat)) ((10 : Nat)) (h12))]))
noncomputable def y_NvmPlays_26 : Nat → Option Nat := (syOf3 [121, 127] [] [])
noncomputable def BL_NvmPlays_26 (l : List At) : Tr (Ex × List At) := B_NvmPlays_26 (aB l 0) (aI l 1) (aB l 2) (aB l 3) (aI l 4) (aI l 5) (aB l 6) (aI l 7) (aI l 8) (aRn l 9) (aRg l 9) (aRn l 10) (aRg l 10) (aMh l 10 16 2) (aRn l 11) (aRg l 11) (aRn l 12) (aRg l 12) (aMh l 12 0 10)
theorem eB_NvmPlays_26 (l : List At) : (exec Try.prog (upd Γ_D2 24 (.read (locR ish_same osh_same F_same))) y_NvmPlays_26 Lp_NvmPlays_9 100 (loopAt Try.f11 26) ⟨mkV lsh_NvmPlays_26 l, mkH lsh_NvmPlays_26 l⟩).bind (leafL 2 xs_NvmPlays_26) = BL_NvmPlays_26 l := by kernel_rfl
/- by hand: O_NvmPlays_26 (x0 : Bool) (x1 : Int) (x2 : Bool) (x3 : Bool) (x4 : Int) (x5 : Int) (x6 : Bool) (x7 : Int) (x8 : Int) (n9 : Nat) (g9 : Nat → Nat → Int) (n10 : Nat) (g10 : Nat → Nat → Int) (h10 : Nat → Nat → Int) (n11 : Nat) (g11 : Nat → Nat → Int) (n12 : Nat) (g12 : Nat → Nat → Int) (h12 : Nat → Nat → Int) : Tr (Ex × List At); OL_NvmPlays_26 (l) := O_NvmPlays_26 (aB l 0) (aI l 1) (aB l 2) (aB l 3) (aI l 4) (aI l 5) (aB l 6) (aI l 7) (aI l 8) (aRn l 9) (aRg l 9) (aRn l 10) (aRg l 10) (aMh l 10 16 2) (aRn l 11) (aRg l 11) (aRn l 12) (aRg l 12) (aMh l 12 0 10); μ_NvmPlays_26 : List At → Nat; rd_NvmPlays_26 : ∀ l r, (OL_NvmPlays_26 l).val = some r → RoundA BL_NvmPlays_26 OL_NvmPlays_26 μ_NvmPlays_26 l r -/

end Go.Proofs.Ythgagehgiooklaa.G
end

/-
  The last loop of NvmPlays: what was told is written over.
-/
section
namespace Go.Proofs.Ythgagehgiooklaa.G
open Go Go.AM Go.Proofs

def prePw (x1 : Int) (n : Nat) : Prop := 0 ≤ x1 ∧ x1 ≤ n ∧ n ≤ 1073741824

noncomputable def O_NvmPlays_26 (x0 : Bool) (x1 : Int) (n9 : Nat) (m : Mem) (y : RMem) : Tr (Ex × List At) :=
  .br 0 (pdec (prePw x1 n9)) (.ok (.exit 2, .b x0 :: bothA m y)) .no
noncomputable def OL_NvmPlays_26 (l : List At) : Tr (Ex × List At) := O_NvmPlays_26 (aB l 0) (aI l 1) (aRn l 9) ⟨aRn l 10, aRg l 10, aMh l 10 16 2, aB l 2, aB l 3, aI l 4, aI l 5⟩ ⟨aRn l 11, aRg l 11, aRn l 12, aRg l 12, aMh l 12 0 10, aB l 6, aI l 7, aI l 8⟩
def μ_NvmPlays_26 (l : List At) : Nat := ((aRn l 9 : Int) - aI l 1).toNat

theorem rd_NvmPlays_26 : ∀ l r, (OL_NvmPlays_26 l).val = some r → RoundS BL_NvmPlays_26 OL_NvmPlays_26 μ_NvmPlays_26 l r := by
  intro l r hh
  unfold OL_NvmPlays_26 at hh
  obtain ⟨hc, h⟩ := guard_val hh
  clear hh
  obtain ⟨c0, c1, c2⟩ := of_pdec hc
  have hr := val_ok h
  unfold RoundS BL_NvmPlays_26 B_NvmPlays_26 
  generalize hx1 : aI l 1 = x1 at *
  generalize hn : aRn l 9 = n at *
  refine brD (fun h1 => ?_) (fun h1 => ?_)
  · have hw : IntKind.i64.wrap (x1 + 1) = x1 + 1 := wrap_i64 (by omega) (by omega)
    have hμ : ((n : Int) - (x1 + 1)).toNat < μ_NvmPlays_26 l := by unfold μ_NvmPlays_26; rw [hx1, hn]; omega
    have hq : prePw (x1 + 1) n := ⟨by omega, by omega, c2⟩
    rw [hw]
    refine brT (by simp [within]; omega) ?_
    first
      | exact on_ _ r (AtsEq.refl _) hμ ((br_t (g := 0) (pdec_yes hq)).trans h) rfl (AtsEq.refl _)
      | exact brT rfl (on_ _ r (AtsEq.refl _) hμ ((br_t (g := 0) (pdec_yes hq)).trans h) rfl (AtsEq.refl _))
  · subst hr
    exact out_ (by simp) rfl (AtsEq.refl _)
end Go.Proofs.Ythgagehgiooklaa.G
end

/-
  What functions of the seat compute, printed by a program from the explorer.
-/
section
namespace Go.Proofs.Ythgagehgiooklaa.G
open Go Go.AM Go.Proofs
theorem f_NvmPlays_26 : LoopF Try.prog 2 (loopAt Try.f11 26) (loopFn 2 lsh_NvmPlays_26 xs_NvmPlays_26 OL_NvmPlays_26) :=
  loop_sat (sy := y_NvmPlays_26) (fuel := 100) (Lp := Lp_NvmPlays_9) (SpecOK.upd o_D2 s_same) mixed (loopsOK_at lk_NvmPlays_9 26) rfl eB_NvmPlays_26 rd_NvmPlays_26
noncomputable def Lp_NvmPlays_26 : Loops := Loops.set Lp_NvmPlays_9 26 (loopFn 2 lsh_NvmPlays_26 xs_NvmPlays_26 OL_NvmPlays_26)
theorem lk_NvmPlays_26 : LoopsFn Try.prog 2 Lp_NvmPlays_26 Try.f11 := loopsFn_set lk_NvmPlays_9 (by kernel_rfl) f_NvmPlays_26

/-! ### NvmPlays -/

noncomputable def ish_NvmPlays : FSh := ⟨[.v false [.k (.n .i64)], .v false [.vw 0 6]], [.nrows [.n .i64, .n .i64, .n .i64, .n .i64, .n .u64, .n .i64] 5 [.n .i64] 1 false false, .no]⟩
noncomputable def osh_NvmPlays : FSh := ⟨[.v false [.k .b]], [.no, .no]⟩
noncomputable def NvmPlays_c0 (x0 : Int) (n1 : Nat) (g1 : Nat → Nat → Int) (h1 : Nat → Nat → Int) : Nat := (Go.Proofs.Ythgagehgiooklaa.G.plM (fun (i : Nat) => g1 ((0 : Nat) + i)) (fun (i : Nat) => h1 ((0 : Nat) + i)) (Min.min n1 (120 : Nat) - (0 : Nat)) (0 : Nat) (Go.Proofs.Ythgagehgiooklaa.G.newM (Int.toNat x0))).n
noncomputable def NvmPlays_c1 (x0 : Int) (n1 : Nat) (g1 : Nat → Nat → Int) (h1 : Nat → Nat → Int) : Bool := Go.Proofs.Ythgagehgiooklaa.G.pdec (Go.Proofs.Ythgagehgiooklaa.G.preSm (0 : Nat) (NvmPlays_c0 x0 n1 g1 h1) (0 : Nat) (Go.Proofs.Ythgagehgiooklaa.G.plR (fun (i : Nat) => g1 ((0 : Nat) + i)) (fun (i : Nat) => h1 ((0 : Nat) + i)) (Min.min n1 (120 : Nat) - (0 : Nat)) (0 : Nat) (Go.Proofs.Ythgagehgiooklaa.G.rnewR (Int.toNat x0) fun (_ _ : Nat) => (0 : Int))).n (0 : Int) (fun (j cc : Nat) => Go.Proofs.Ythgagehgiooklaa.G.suG (NvmPlays_c0 x0 n1 g1 h1) (Go.Proofs.Ythgagehgiooklaa.G.plM (fun (i : Nat) => g1 ((0 : Nat) + i)) (fun (i : Nat) => h1 ((0 : Nat) + i)) (Min.min n1 (120 : Nat) - (0 : Nat)) (0 : Nat) (Go.Proofs.Ythgagehgiooklaa.G.newM (Int.toNat x0))).g ((0 : Nat) + j) cc) fun (j cc : Nat) => (Go.Proofs.Ythgagehgiooklaa.G.plR (fun (i : Nat) => g1 ((0 : Nat) + i)) (fun (i : Nat) => h1 ((0 : Nat) + i)) (Min.min n1 (120 : Nat) - (0 : Nat)) (0 : Nat) (Go.Proofs.Ythgagehgiooklaa.G.rnewR (Int.toNat x0) fun (_ _ : Nat) => (0 : Int))).S ((0 : Nat) + j) cc)
noncomputable def T_NvmPlays (x0 : Int) (n1 : Nat) (g1 : Nat → Nat → Int) (h1 : Nat → Nat → Int) : Tr (List At) :=
 .br 0 (Decidable.decide (x0 < (64 : Int) ∨ x0 > (1024 : Int)))
 (.br 0 (Decidable.decide (x0 < (64 : Int) ∨ x0 > (1024 : Int)))
 (.ok [(.b (Bool.true))])
 (.ok [(.b (Bool.false))]))
 (.br 0 (Decidable.decide (x0 < (64 : Int) ∨ x0 > (1024 : Int)))
 (.ok [(.b (Bool.false))])
 (.br 0 (Go.Proofs.Ythgagehgiooklaa.G.pdec (Go.Proofs.Ythgagehgiooklaa.G.prePl n1 (0 : Int) (fun (i : Nat) => g1 ((0 : Nat) + i)) (fun (i : Nat) => h1 ((0 : Nat) + i)) (Go.Proofs.Ythgagehgiooklaa.G.newM (Int.toNat x0)) (Go.Proofs.Ythgagehgiooklaa.G.rnewR (Int.toNat x0) fun (_ _ : Nat) => (0 : Int))))
 (.br 0 (Go.Proofs.Ythgagehgiooklaa.G.pdec (Go.Proofs.Ythgagehgiooklaa.G.Mem.Ok (900000 : Int) (Go.Proofs.Ythgagehgiooklaa.G.plM (fun (i : Nat) => g1 ((0 : Nat) + i)) (fun (i : Nat) => h1 ((0 : Nat) + i)) (Min.min n1 (120 : Nat) - (0 : Nat)) (0 : Nat) (Go.Proofs.Ythgagehgiooklaa.G.newM (Int.toNat x0)))))
 (.br 10 ((↑(NvmPlays_c0 x0 n1 g1 h1) : Int) != (↑(Go.Proofs.Ythgagehgiooklaa.G.plR (fun (i : Nat) => g1 ((0 : Nat) + i)) (fun (i : Nat) => h1 ((0 : Nat) + i)) (Min.min n1 (120 : Nat) - (0 : Nat)) (0 : Nat) (Go.Proofs.Ythgagehgiooklaa.G.rnewR (Int.toNat x0) fun (_ _ : Nat) => (0 : Int))).n : Int))
 (.br 0 (Go.Proofs.Ythgagehgiooklaa.G.pdec (Go.Proofs.Ythgagehgiooklaa.G.prePw (0 : Int) (Go.Proofs.Ythgagehgiooklaa.G.plM (fun (i : Nat) => g1 ((0 : Nat) + i)) (fun (i : Nat) => h1 ((0 : Nat) + i)) (Min.min n1 (120 : Nat) - (0 : Nat)) (0 : Nat) (Go.Proofs.Ythgagehgiooklaa.G.newM (Int.toNat x0))).n))
 (.ok [(.b (Bool.false))])
 (.no))
 (.br 0 ((NvmPlays_c1 x0 n1 g1 h1))
 (.br 0 (Go.Proofs.Ythgagehgiooklaa.G.pdec (Go.Proofs.Ythgagehgiooklaa.G.prePw (0 : Int) (NvmPlays_c0 x0 n1 g1 h1)))
 (.br 0 (Go.Proofs.Ythgagehgiooklaa.G.pdec (Go.Proofs.Ythgagehgiooklaa.G.Mem.Ok (900000 : Int) (Go.Proofs.Ythgagehgiooklaa.G.plM (fun (i : Nat) => g1 ((0 : Nat) + i)) (fun (i : Nat) => h1 ((0 : Nat) + i)) (Min.min n1 (120 : Nat) - (0 : Nat)) (0 : Nat) (Go.Proofs.Ythgagehgiooklaa.G.newM (Int.toNat x0)))))
 (.br 10 ((↑(NvmPlays_c0 x0 n1 g1 h1) : Int) != (↑(Go.Proofs.Ythgagehgiooklaa.G.plR (fun (i : Nat) => g1 ((0 : Nat) + i)) (fun (i : Nat) => h1 ((0 : Nat) + i)) (Min.min n1 (120 : Nat) - (0 : Nat)) (0 : Nat) (Go.Proofs.Ythgagehgiooklaa.G.rnewR (Int.toNat x0) fun (_ _ : Nat) => (0 : Int))).n : Int))
 (.ok [(.b (Bool.false))])
 (.br 0 ((NvmPlays_c1 x0 n1 g1 h1))
 (.ok [(.b (Bool.true))])
 (.no)))
 (.no))
 (.no))
 (.no)))
 (.no))
 (.no)))
noncomputable def y_NvmPlays : Nat → Option Nat := (syOf3 [10] [] [])
noncomputable def TL_NvmPlays (l : List At) : Tr (List At) := T_NvmPlays (aI l 0) (aRn l 1) (aRg l 1) (aMh l 1 5 1)
theorem e_NvmPlays (l : List At) : (call Try.prog (upd Γ_D2 24 (.read (locR ish_same osh_same F_same))) y_NvmPlays Lp_NvmPlays_26 100 Try.f11 (mkV ish_NvmPlays l) (mkH ish_NvmPlays l)).bind (leafO ish_NvmPlays.hp.length ⟨[.v false [.k .b]], List.replicate ish_NvmPlays.hp.length .no⟩) = TL_NvmPlays l := by kernel_rfl

end Go.Proofs.Ythgagehgiooklaa.G
end

/-
  The plain law of NvmPlays.
-/
section
namespace Go.Proofs.Ythgagehgiooklaa.G
open Go Go.AM Go.Proofs

theorem pl_two {G H : Nat → Nat → Int} : ∀ (d i : Nat) (m : Mem) (y : RMem) (K : Int), Two K m y → K + d ≤ 900000 → (∀ j, i ≤ j → j < i + d → int64 (G j 3)) → Two (K + d) (plM G H d i m) (plR G H d i y) ∧ (plM G H d i m).n = m.n
  | 0, _, _, _, _, h, _, _ => ⟨h.mono (by omega), rfl⟩
  | d + 1, i, m, y, K, h, hK, hr => by
    have t := two_do h (by omega) (k := r_kind_0 (G i 0) 12) (c := G i 1) (i := G i 2) (w := G i 3) (v := G i 4) (q := fun j => H i ((0 + j) * 1 + 0)) (kn := (G i 5).toNat) (hr i (Nat.le_refl _) (by omega))
    obtain ⟨a, b⟩ := pl_two d (i + 1) _ _ (K + 1) t (by omega) fun j h5 h6 => hr j (by omega) (by omega)
    rw [plM, plR]
    exact ⟨a.mono (by omega), b.trans doM_n⟩

theorem opsP_wf {n1 : Nat} {g1 h1 : Nat → Nat → Int} (w : ∀ (i c : Nat) (k : SK), i < n1 → [SK.n .i64, SK.n .i64, SK.n .i64, SK.n .i64, SK.n .u64][c]? = some k → wfS k (g1 i c))
    (wm : ∀ i, i < n1 → 0 ≤ g1 i 5 ∧ g1 i 5 ≤ maxLen ∧ ∀ (j c : Nat) k, j < (g1 i 5).toNat → [SK.n .i64][c]? = some k → wfS k (h1 i (j * 1 + c))) :
    (∀ i c, i < n1 → c < 4 → -9223372036854775808 ≤ g1 (0 + i) c ∧ g1 (0 + i) c ≤ 9223372036854775807) ∧ ∀ i, i < n1 → KeepOk (fun j => h1 (0 + i) ((0 + j) * 1 + 0)) (g1 (0 + i) 5).toNat := by
  refine ⟨fun i c hi hc => ?_, fun i hi j hj => ?_⟩
  · rw [Nat.zero_add]
    match c, hc with
    | 0, _ => exact w i 0 (.n .i64) hi rfl
    | 1, _ => exact w i 1 (.n .i64) hi rfl
    | 2, _ => exact w i 2 (.n .i64) hi rfl
    | 3, _ => exact w i 3 (.n .i64) hi rfl
  · have := (wm i hi).2.2 j 0 (.n .i64) (by rw [Nat.zero_add] at hj; exact hj) rfl
    show -9223372036854775808 ≤ h1 (0 + i) ((0 + j) * 1 + 0) ∧ h1 (0 + i) ((0 + j) * 1 + 0) ≤ 9223372036854775807
    rw [Nat.zero_add, Nat.zero_add]
    exact this

theorem vc_NvmPlays (x0 : Int) (n1 : Nat) (g1 h1 : Nat → Nat → Int) (_x0l : -9223372036854775808 ≤ x0) (_x0h : x0 ≤ 9223372036854775807) (_b : n1 ≤ maxLen) (w : ∀ (i c : Nat) (k : SK), i < n1 → [SK.n .i64, SK.n .i64, SK.n .i64, SK.n .i64, SK.n .u64][c]? = some k → wfS k (g1 i c))
    (wm : ∀ i, i < n1 → 0 ≤ g1 i 5 ∧ g1 i 5 ≤ maxLen ∧ ∀ (j c : Nat) k, j < (g1 i 5).toNat → [SK.n .i64][c]? = some k → wfS k (h1 i (j * 1 + c))) : (T_NvmPlays x0 n1 g1 h1).sat fun r => r = [.b true] := by
  obtain ⟨v1, v2⟩ := opsP_wf w wm
  unfold T_NvmPlays NvmPlays_c1 NvmPlays_c0
  refine brD (fun hx => brT (decide_eq_true hx) (Tr.sat_ok.2 rfl)) (fun hx => brF (decide_eq_false hx) ?_)
  have hn0 : x0.toNat ≤ 1024 ∧ 64 ≤ x0.toNat := by omega
  have t0 : Two 0 (newM x0.toNat) (rnewR x0.toNat fun _ _ => 0) := ⟨newM_ok (by omega), rnewR_ok (by omega), newM_coh _, side_new _⟩
  obtain ⟨t, hn⟩ := pl_two (G := fun i => g1 (0 + i)) (H := fun i => h1 (0 + i)) (min n1 120 - 0) 0 _ _ 0 t0 (by omega) fun j _ hj => v1 j 3 (by omega) (by decide)
  have hn' : (plM (fun i => g1 (0 + i)) (fun i => h1 (0 + i)) (min n1 120 - 0) 0 (newM x0.toNat)).n = x0.toNat := hn
  generalize plM (fun i => g1 (0 + i)) (fun i => h1 (0 + i)) (min n1 120 - 0) 0 (newM x0.toNat) = M at *
  generalize plR (fun i => g1 (0 + i)) (fun i => h1 (0 + i)) (min n1 120 - 0) 0 (rnewR x0.toNat fun _ _ => 0) = Y at *
  obtain ⟨o1, o2, o3, o4⟩ := t
  have okM := pdec_yes (o1.mono (by omega : _ ≤ (900000 : Int)))
  have ey : Y.n = M.n := o4.n
  have en : ((M.n : Int) != (Y.n : Int)) = false := by rw [ey]; simp
  have esm : pdec (preSm 0 M.n 0 Y.n 0 (fun j cc => suG M.n M.g (0 + j) cc) fun j cc => Y.S (0 + j) cc) = true := pdec_yes ⟨Int.le_refl _, by omega, by omega, fun i _ hi c hc => by
    show suG M.n M.g (0 + (0 + i)) c = Y.S (0 + (0 + i)) c
    rw [Nat.zero_add, Nat.zero_add, ← (o4.row i hi).2.1 c hc]
    unfold suG
    rw [if_pos ⟨hi, hc⟩]⟩
  have ew : pdec (prePw 0 M.n) = true := pdec_yes ⟨Int.le_refl _, by omega, by omega⟩
  refine brT (pdec_yes ⟨⟨Int.le_refl _, by omega, by omega⟩, t0.mono (by decide), by show 0 < x0.toNat; omega, v1, v2⟩) (brT okM (brF en (brT esm (brT ew (brT okM (brF en (brT esm (Tr.sat_ok.2 rfl))))))))
end Go.Proofs.Ythgagehgiooklaa.G
end
