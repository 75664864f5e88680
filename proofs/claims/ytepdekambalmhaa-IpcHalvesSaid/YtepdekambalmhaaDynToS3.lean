/-
  Calls of closures: all of them only read here (the first law, which nothing calls, stands for the flag).
-/
import Derived.Test.YtepdekambalmhaaRows
import Derived.Test.YtepdekambalmhaaAn5ToAnR
import Derived.Test.YtepdekambalmhaaAmEToAn4
import Derived.KernelRfl
section
namespace Go.Proofs.Ytepdekambalmhaa.G
open Go Go.AM Go.Proofs

theorem mixed : Try.prog.follows .mixedOrders = true := by kernel_rfl
def Γ_dyn : Specs := upd noSpecs 3 (.read fun _ _ => .no)
theorem s_dyn : SpecF Try.prog 3 (.read fun _ _ => .no) := by
  have h : fnOk Try.prog 3 Try.f3 := ⟨Try.func3, by kernel_rfl, by kernel_rfl⟩
  refine .inr ⟨⟨Try.f3, h⟩, fun φ H w targs args tv H' happ _ _ => ?_, fun _ _ _ _ h => by simp [Tr.val] at h⟩
  simp [Spec.app, Tr.val_bind, Tr.val] at happ
theorem o_dyn : SpecOK Try.prog Γ_dyn := SpecOK.upd noSpecs_ok s_dyn
end Go.Proofs.Ytepdekambalmhaa.G
end

/-
  What functions of the seat compute, printed by a program from the explorer.
-/
section
namespace Go.Proofs.Ytepdekambalmhaa.G
open Go Go.AM Go.Proofs
/-! ### isId -/

def ish_isId : FSh := ⟨[.v false [.k (.n .i64)]], []⟩
def osh_isId : FSh := ⟨[.v false [.k .b]], []⟩
def T_isId (x0 : Int) : Tr (List At) :=
 .br 5 (decide (x0 ≥ (0 : Int)))
 (.ok [(.b (decide (x0 < (49 : Int))))])
 (.ok [(.b (false))])
def y_isId : Nat → Option Nat := (syOf3 [5] [] [])
def TL_isId (l : List At) : Tr (List At) := T_isId (aI l 0)
theorem e_isId (l : List At) : (call Try.prog Γ_dyn y_isId noLoops 100 Try.f20 (mkV ish_isId l) (mkH ish_isId l)).bind (leafO 0 osh_isId) = TL_isId l := by kernel_rfl
def r_isId_0 (x0 : Int) : Bool :=
  bif decide (x0 ≥ (0 : Int)) then (decide (x0 < (49 : Int)))
  else false
def F_isId : List At → Tr (List At) := fun l => .ok [.b (r_isId_0 (aI l 0))]
theorem s_isId : SpecF Try.prog 20 (.pure (locP ish_isId osh_isId F_isId)) :=
  spec_locP (sy := y_isId) (fuel := 100) (Lp := noLoops) o_dyn mixed ⟨Try.func20, by kernel_rfl, by kernel_rfl⟩ ish_isId osh_isId rfl (noLoops_ok _) (hT_merged [.b] e_isId (fun l => by kernel_rfl) (fun l => by kernel_rfl))
def Γ_isId : Specs := upd Γ_dyn 20 (.pure (locP ish_isId osh_isId F_isId))
theorem o_isId : SpecOK Try.prog Γ_isId := SpecOK.upd o_dyn s_isId

/-! ### waits -/

def ish_waits : FSh := ⟨[.v false [.k (.n .i64)]], []⟩
def osh_waits : FSh := ⟨[.v false [.k .b]], []⟩
def T_waits (x0 : Int) : Tr (List At) :=
 .br 5 (x0 == (3 : Int))
 (.ok [(.b (true))])
 (.ok [(.b (x0 == (4 : Int)))])
def y_waits : Nat → Option Nat := (syOf3 [5] [] [])
def TL_waits (l : List At) : Tr (List At) := T_waits (aI l 0)
theorem e_waits (l : List At) : (call Try.prog Γ_isId y_waits noLoops 100 Try.f17 (mkV ish_waits l) (mkH ish_waits l)).bind (leafO 0 osh_waits) = TL_waits l := by kernel_rfl
def r_waits_0 (x0 : Int) : Bool :=
  bif x0 == (3 : Int) then (true)
  else x0 == (4 : Int)
def F_waits : List At → Tr (List At) := fun l => .ok [.b (r_waits_0 (aI l 0))]
theorem s_waits : SpecF Try.prog 17 (.pure (locP ish_waits osh_waits F_waits)) :=
  spec_locP (sy := y_waits) (fuel := 100) (Lp := noLoops) o_isId mixed ⟨Try.func17, by kernel_rfl, by kernel_rfl⟩ ish_waits osh_waits rfl (noLoops_ok _) (hT_merged [.b] e_waits (fun l => by kernel_rfl) (fun l => by kernel_rfl))
def Γ_waits : Specs := upd Γ_isId 17 (.pure (locP ish_waits osh_waits F_waits))
theorem o_waits : SpecOK Try.prog Γ_waits := SpecOK.upd o_isId s_waits

/-! ### notId -/

def ish_notId : FSh := ⟨[.v false [.k (.n .i64)]], []⟩
def osh_notId : FSh := ⟨[.v false [.k .b]], []⟩
def T_notId (x0 : Int) : Tr (List At) :=
 .ok [(.b (!r_isId_0 x0))]
def y_notId : Nat → Option Nat := (syOf3 [] [] [])
def TL_notId (l : List At) : Tr (List At) := T_notId (aI l 0)
theorem e_notId (l : List At) : (call Try.prog Γ_waits y_notId noLoops 100 Try.f19 (mkV ish_notId l) (mkH ish_notId l)).bind (leafO 0 osh_notId) = TL_notId l := by kernel_rfl
def r_notId_0 (x0 : Int) : Bool :=
  !r_isId_0 x0
def F_notId : List At → Tr (List At) := fun l => .ok [.b (r_notId_0 (aI l 0))]
theorem s_notId : SpecF Try.prog 19 (.pure (locP ish_notId osh_notId F_notId)) :=
  spec_locP (sy := y_notId) (fuel := 100) (Lp := noLoops) o_waits mixed ⟨Try.func19, by kernel_rfl, by kernel_rfl⟩ ish_notId osh_notId rfl (noLoops_ok _) (hT_merged [.b] e_notId (fun l => by kernel_rfl) (fun l => by kernel_rfl))
def Γ_notId : Specs := upd Γ_waits 19 (.pure (locP ish_notId osh_notId F_notId))
theorem o_notId : SpecOK Try.prog Γ_notId := SpecOK.upd o_waits s_notId

/-! ### the loop at 2 of idxF -/

def lsh_idxF_2 : FSh := ⟨[.v false [.sq 0 1], .v false [.fn 19 []], .any, .any, .any, .any, .any, .v false [.k (.n .i64)], .v false [.k (.n .i64)], .any, .any, .any, .any, .any, .any, .any, .any, .any, .any], [.rows [.n .i64] false]⟩
def xsh_idxF_2_0 : FSh := ⟨[.any, .any, .any, .any, .any, .any, .any, .any, .any, .any, .any, .any, .any, .any, .any, .any, .any, .any, .any], [.no]⟩
def xsh_idxF_2_1 : FSh := ⟨[.any, .any, .any, .any, .v false [.k (.n .i64)], .any, .any, .any, .any, .any, .any, .any, .any, .any, .any, .any, .any, .any, .any], [.no]⟩
def xs_idxF_2 : Exs := fun e => match e with
  | .normal => some lsh_idxF_2
  | .exit n => (match Nat.beq n 0 with | true => some xsh_idxF_2_0 | false => none)
  | .ret => some xsh_idxF_2_1
def B_idxF_2 (x0 : Nat) (x1 : Nat) (x2 : Int) (x3 : Int) (n4 : Nat) (g4 : Nat → Nat → Int) : Tr (Ex × List At) :=
 .br 9 (decide (x3 < x2))
 (.br 14 (within x3 x1)
 (.br 16 (r_notId_0 (g4 (x0 + Int.toNat x3) (0 : Nat)))
 (.ok (.ret, [(.i (x3))]))
 (.ok (.normal, [(.n (x0)), (.n (x1)), (.i (x2)), (.i (IntKind.wrap IntKind.i64 (x3 + (1 : Int)))), (.r (n4) (g4))])))
 (.no))
 (.ok (.exit 0, []))
def y_idxF_2 : Nat → Option Nat := (syOf3 [9, 14, 16] [] [])
def BL_idxF_2 (l : List At) : Tr (Ex × List At) := B_idxF_2 (aN l 0) (aN l 1) (aI l 2) (aI l 3) (aRn l 4) (aRg l 4)
theorem eB_idxF_2 (l : List At) : (exec Try.prog Γ_notId y_idxF_2 noLoops 100 (loopAt Try.f21 2) ⟨mkV lsh_idxF_2 l, mkH lsh_idxF_2 l⟩).bind (leafL 1 xs_idxF_2) = BL_idxF_2 l := by kernel_rfl
/- by hand: O_idxF_2 (x0 : Nat) (x1 : Nat) (x2 : Int) (x3 : Int) (n4 : Nat) (g4 : Nat → Nat → Int) : Tr (Ex × List At); OL_idxF_2 (l) := O_idxF_2 (aN l 0) (aN l 1) (aI l 2) (aI l 3) (aRn l 4) (aRg l 4); μ_idxF_2 : List At → Nat; rd_idxF_2 : ∀ l r, (OL_idxF_2 l).val = some r → RoundA BL_idxF_2 OL_idxF_2 μ_idxF_2 l r -/

end Go.Proofs.Ytepdekambalmhaa.G
end

/-
  What the loop that looks for a number that is no object's comes to.
-/
section
namespace Go.Proofs.Ytepdekambalmhaa.G
open Go Go.AM Go.Proofs

/-- The first of 'm' from 'i' on, or behind them. -/
def findI (p : Nat → Bool) : Nat → Nat → Nat
  | 0, i => i
  | m + 1, i => bif p i then i else findI p m (i + 1)

theorem findI_hit {p : Nat → Bool} {m i : Nat} (hm : 0 < m) (h : p i = true) : findI p m i = i := by
  obtain ⟨k, rfl⟩ : ∃ k, m = k + 1 := ⟨m - 1, by omega⟩
  rw [findI, h]; rfl
theorem findI_step {p : Nat → Bool} {m m' i : Nat} (hm : m = m' + 1) (h : p i = false) : findI p m i = findI p m' (i + 1) := by
  subst hm
  rw [findI, h]; rfl
theorem findI_spec (p : Nat → Bool) : ∀ (m i : Nat), i ≤ findI p m i ∧ findI p m i ≤ i + m ∧ (findI p m i < i + m → p (findI p m i) = true) ∧ ∀ k, i ≤ k → k < findI p m i → p k = false
  | 0, i => ⟨Nat.le_refl _, Nat.le_refl _, fun h => by simp [findI] at h, fun k h1 h2 => by simp [findI] at h2; omega⟩
  | m + 1, i => by
    cases h : p i with
    | true =>
      rw [findI_hit (by omega) h]
      exact ⟨Nat.le_refl _, by omega, fun _ => h, fun k h1 h2 => by omega⟩
    | false =>
      rw [findI_step rfl h]
      obtain ⟨a, b, c, d⟩ := findI_spec p m (i + 1)
      refine ⟨by omega, by omega, fun hl => c (by omega), fun k h1 h2 => ?_⟩
      rcases Nat.eq_or_lt_of_le h1 with e | e
      · subst e; exact h
      · exact d k e h2

def O_idxF_2 (x0 : Nat) (x1 : Nat) (x2 : Int) (x3 : Int) (_n4 : Nat) (g4 : Nat → Nat → Int) : Tr (Ex × List At) :=
  .br 0 (decide (0 ≤ x3 ∧ x2 = x1 ∧ x3 ≤ x2 ∧ x2 ≤ 9223372036854775807))
    (.br 0 (decide (findI (fun k => r_notId_0 (g4 (x0 + k) 0)) (x2 - x3).toNat x3.toNat < x2.toNat))
      (.ok (.ret, [.i (findI (fun k => r_notId_0 (g4 (x0 + k) 0)) (x2 - x3).toNat x3.toNat : Nat)])) (.ok (.exit 0, []))) .no
def OL_idxF_2 (l : List At) : Tr (Ex × List At) := O_idxF_2 (aN l 0) (aN l 1) (aI l 2) (aI l 3) (aRn l 4) (aRg l 4)
def μ_idxF_2 (l : List At) : Nat := (aI l 2 - aI l 3).toNat

theorem rd_idxF_2 : ∀ l r, (OL_idxF_2 l).val = some r → RoundS BL_idxF_2 OL_idxF_2 μ_idxF_2 l r := by
  intro l r h
  obtain ⟨hc, h⟩ := guard_val h
  simp only [decide_eq_true_eq] at hc
  obtain ⟨c0, c1, c2, c3⟩ := hc
  unfold RoundS BL_idxF_2 B_idxF_2
  refine brC (fun h1 => ?_) (fun h1 => ?_)
  · simp only [decide_eq_true_eq] at h1
    have hw : IntKind.i64.wrap (aI l 3 + 1) = aI l 3 + 1 := wrap_i64 (by omega) (by omega)
    refine brT (by simp only [within, Bool.and_eq_true, decide_eq_true_eq]; omega) (brC (fun h3 => ?_) (fun h3 => ?_))
    · have hf := findI_hit (p := fun k => r_notId_0 (aRg l 4 (aN l 0 + k) 0)) (m := (aI l 2 - aI l 3).toNat) (i := (aI l 3).toNat) (by omega) h3
      rw [hf, br_t (by simp only [decide_eq_true_eq]; omega)] at h
      have := val_ok h
      subst this
      exact out_ (by simp) rfl (atsEq_cons (atEq_i (by simp; omega)) atsEq_nil)
    · have hf := findI_step (p := fun k => r_notId_0 (aRg l 4 (aN l 0 + k) 0)) (m := (aI l 2 - aI l 3).toNat) (m' := (aI l 2 - (aI l 3 + 1)).toNat) (i := (aI l 3).toNat) (by omega) h3
      refine on_ [.n (aN l 0), .n (aN l 1), .i (aI l 2), .i (aI l 3 + 1), .r (aRn l 4) (aRg l 4)] r (by rw [hw]; exact AtsEq.refl _) ?_ ?_ rfl (AtsEq.refl _)
      · show (aI l 2 - (aI l 3 + 1)).toNat < (aI l 2 - aI l 3).toNat
        omega
      · refine (br_t (g := 0) ?_).trans ?_
        · show decide (0 ≤ aI l 3 + 1 ∧ aI l 2 = aN l 1 ∧ aI l 3 + 1 ≤ aI l 2 ∧ aI l 2 ≤ 9223372036854775807) = true
          simp only [decide_eq_true_eq]; omega
        · rw [hf, show (aI l 3).toNat + 1 = (aI l 3 + 1).toNat by omega] at h
          exact h
  · simp only [decide_eq_false_iff_not] at h1
    have e : (aI l 2 - aI l 3).toNat = 0 := by omega
    rw [e, br_f (decide_eq_false (by simp only [findI]; omega))] at h
    have := val_ok h
    subst this
    exact out_ (by simp) rfl atsEq_nil
end Go.Proofs.Ytepdekambalmhaa.G
end

/-
  What functions of the seat compute, printed by a program from the explorer.
-/
section
namespace Go.Proofs.Ytepdekambalmhaa.G
open Go Go.AM Go.Proofs
theorem f_idxF_2 : LoopF Try.prog 1 (loopAt Try.f21 2) (loopFn 1 lsh_idxF_2 xs_idxF_2 OL_idxF_2) :=
  loop_sat (sy := y_idxF_2) (fuel := 100) (Lp := noLoops) o_notId mixed (loopsOK_at (noLoops_ok _) 2) rfl eB_idxF_2 rd_idxF_2
def Lp_idxF_2 : Loops := Loops.set noLoops 2 (loopFn 1 lsh_idxF_2 xs_idxF_2 OL_idxF_2)
theorem lk_idxF_2 : LoopsFn Try.prog 1 Lp_idxF_2 Try.f21 := loopsFn_set (noLoops_ok _) (by kernel_rfl) f_idxF_2

/-! ### idxF -/

def ish_idxF : FSh := ⟨[.v false [.vw 0 1], .v false [.fn 19 []]], [.rows [.n .i64] false]⟩
def osh_idxF : FSh := ⟨[.v false [.k (.n .i64)]], [.no]⟩
def T_idxF (n0 : Nat) (g0 : Nat → Nat → Int) : Tr (List At) :=
 .br 0 (decide ((0 : Int) ≤ (0 : Int) ∧ (↑n0 : Int) = (↑n0 : Int) ∧ (0 : Int) ≤ (↑n0 : Int) ∧ (↑n0 : Int) ≤ (9223372036854775807 : Int)))
 (.br 0 (decide (findI (fun (k : Nat) => r_notId_0 (g0 ((0 : Nat) + k) (0 : Nat))) (Int.toNat ((↑n0 : Int) - (0 : Int))) (0 : Nat) < Int.toNat (↑n0 : Int)))
 (.ok [(.i ((↑(findI (fun (k : Nat) => r_notId_0 (g0 ((0 : Nat) + k) (0 : Nat))) (Int.toNat ((↑n0 : Int) - (0 : Int))) (0 : Nat)) : Int)))])
 (.ok [(.i ((-1 : Int)))]))
 (.no)
def y_idxF : Nat → Option Nat := (syOf3 [] [] [])
def TL_idxF (l : List At) : Tr (List At) := T_idxF (aRn l 0) (aRg l 0)
theorem e_idxF (l : List At) : (call Try.prog Γ_notId y_idxF Lp_idxF_2 100 Try.f21 (mkV ish_idxF l) (mkH ish_idxF l)).bind (leafO 1 osh_idxF) = TL_idxF l := by kernel_rfl
def r_idxF_0 (n0 : Nat) (g0 : Nat → Nat → Int) : Int :=
  bif decide ((0 : Int) ≤ (0 : Int) ∧ (↑n0 : Int) = (↑n0 : Int) ∧ (0 : Int) ≤ (↑n0 : Int) ∧ (↑n0 : Int) ≤ (9223372036854775807 : Int)) then (bif decide (findI (fun (k : Nat) => r_notId_0 (g0 ((0 : Nat) + k) (0 : Nat))) (Int.toNat ((↑n0 : Int) - (0 : Int))) (0 : Nat) < Int.toNat (↑n0 : Int)) then ((↑(findI (fun (k : Nat) => r_notId_0 (g0 ((0 : Nat) + k) (0 : Nat))) (Int.toNat ((↑n0 : Int) - (0 : Int))) (0 : Nat)) : Int))
  else (-1 : Int))
  else 0
def ok_idxF (n0 : Nat) (g0 : Nat → Nat → Int) : Bool :=
  bif decide ((0 : Int) ≤ (0 : Int) ∧ (↑n0 : Int) = (↑n0 : Int) ∧ (0 : Int) ≤ (↑n0 : Int) ∧ (↑n0 : Int) ≤ (9223372036854775807 : Int)) then (bif decide (findI (fun (k : Nat) => r_notId_0 (g0 ((0 : Nat) + k) (0 : Nat))) (Int.toNat ((↑n0 : Int) - (0 : Int))) (0 : Nat) < Int.toNat (↑n0 : Int)) then (true)
  else true)
  else false
def F_idxF : List At → Tr (List At) := fun l => .br 0 (ok_idxF (aRn l 0) (aRg l 0)) (.ok [.i (r_idxF_0 (aRn l 0) (aRg l 0))]) .no
theorem s_idxF : SpecF Try.prog 21 (.read (locR ish_idxF osh_idxF F_idxF)) :=
  spec_read (sy := y_idxF) (fuel := 100) (Lp := Lp_idxF_2) o_notId mixed ⟨Try.func21, by kernel_rfl, by kernel_rfl⟩ ish_idxF osh_idxF (by kernel_rfl) lk_idxF_2 (hT_merged [.i] e_idxF (fun l => by kernel_rfl) (fun l => by kernel_rfl))
def Γ_idxF : Specs := upd Γ_notId 21 (.read (locR ish_idxF osh_idxF F_idxF))
theorem o_idxF : SpecOK Try.prog Γ_idxF := SpecOK.upd o_notId s_idxF

/-! ### hasF -/

def ish_hasF : FSh := ⟨[.v false [.vw 0 1], .v false [.fn 19 []]], [.rows [.n .i64] false]⟩
def osh_hasF : FSh := ⟨[.v false [.k .b]], [.no]⟩
def T_hasF (n0 : Nat) (g0 : Nat → Nat → Int) : Tr (List At) :=
 .br 0 (ok_idxF n0 fun (j cc : Nat) => g0 ((0 : Nat) + j) cc)
 (.ok [(.b (decide ((r_idxF_0 n0 fun (j cc : Nat) => g0 ((0 : Nat) + j) cc) ≥ (0 : Int))))])
 (.no)
def y_hasF : Nat → Option Nat := (syOf3 [] [] [])
def TL_hasF (l : List At) : Tr (List At) := T_hasF (aRn l 0) (aRg l 0)
theorem e_hasF (l : List At) : (call Try.prog Γ_idxF y_hasF noLoops 100 Try.f18 (mkV ish_hasF l) (mkH ish_hasF l)).bind (leafO 1 osh_hasF) = TL_hasF l := by kernel_rfl
def r_hasF_0 (n0 : Nat) (g0 : Nat → Nat → Int) : Bool :=
  bif ok_idxF n0 fun (j cc : Nat) => g0 ((0 : Nat) + j) cc then (decide ((r_idxF_0 n0 fun (j cc : Nat) => g0 ((0 : Nat) + j) cc) ≥ (0 : Int)))
  else false
def ok_hasF (n0 : Nat) (g0 : Nat → Nat → Int) : Bool :=
  bif ok_idxF n0 fun (j cc : Nat) => g0 ((0 : Nat) + j) cc then (true)
  else false
def F_hasF : List At → Tr (List At) := fun l => .br 0 (ok_hasF (aRn l 0) (aRg l 0)) (.ok [.b (r_hasF_0 (aRn l 0) (aRg l 0))]) .no
theorem s_hasF : SpecF Try.prog 18 (.read (locR ish_hasF osh_hasF F_hasF)) :=
  spec_read (sy := y_hasF) (fuel := 100) (Lp := noLoops) o_idxF mixed ⟨Try.func18, by kernel_rfl, by kernel_rfl⟩ ish_hasF osh_hasF (by kernel_rfl) (noLoops_ok _) (hT_merged [.b] e_hasF (fun l => by kernel_rfl) (fun l => by kernel_rfl))
def Γ_hasF : Specs := upd Γ_idxF 18 (.read (locR ish_hasF osh_hasF F_hasF))
theorem o_hasF : SpecOK Try.prog Γ_hasF := SpecOK.upd o_idxF s_hasF

/-! ### the loop at 7 of gLine -/

def lsh_gLine_7 : FSh := ⟨[.any, .any, .any, .any, .v false [.p 1 0], .any, .any, .any, .v false [.p 2 0], .any, .any, .any, .any, .any, .any, .any, .any, .any, .any, .any, .any, .any, .any, .any, .any, .any, .any, .any, .any, .any, .any, .any, .any, .any, .any, .any, .any, .any, .any, .any, .any, .any, .any, .any, .any, .any, .any, .any, .any, .v false [.sq 0 1], .v false [.k (.n .i64)], .v false [.k (.n .i64)], .any, .any, .any, .any, .any, .any, .any, .any, .any, .any, .any], [.rows [.n .i64] false, .cells [.k (.n .u64), .k (.n .u64), .k (.n .u64), .k (.n .u64), .k (.n .u64), .k (.n .u64), .k (.n .u64), .k (.n .u64)], .cells [.k (.n .u64), .k (.n .u64), .k (.n .u64), .k (.n .u64), .k (.n .u64), .k (.n .u64), .k (.n .u64), .k (.n .u64)]]⟩
def xsh_gLine_7_0 : FSh := ⟨[.any, .any, .any, .any, .v false [.p 1 0], .any, .any, .any, .v false [.p 2 0], .any, .any, .any, .any, .any, .any, .any, .any, .any, .any, .any, .any, .any, .any, .any, .any, .any, .any, .any, .any, .any, .any, .any, .any, .any, .any, .any, .any, .any, .any, .any, .any, .any, .any, .any, .any, .any, .any, .any, .any, .any, .any, .any, .any, .any, .any, .any, .any, .any, .any, .any, .any, .any, .any], [.no, .cells [.k (.n .u64), .k (.n .u64), .k (.n .u64), .k (.n .u64), .k (.n .u64), .k (.n .u64), .k (.n .u64), .k (.n .u64)], .cells [.k (.n .u64), .k (.n .u64), .k (.n .u64), .k (.n .u64), .k (.n .u64), .k (.n .u64), .k (.n .u64), .k (.n .u64)]]⟩
def xs_gLine_7 : Exs := fun e => match e with
  | .normal => some lsh_gLine_7
  | .exit n => (match Nat.beq n 0 with | true => some xsh_gLine_7_0 | false => none)
  | .ret => none
def B_gLine_7 (x0 : Nat) (x1 : Nat) (x2 : Int) (x3 : Int) (n4 : Nat) (g4 : Nat → Nat → Int) (x5 : Int) (x6 : Int) (x7 : Int) (x8 : Int) (x9 : Int) (x10 : Int) (x11 : Int) (x12 : Int) (x13 : Int) (x14 : Int) (x15 : Int) (x16 : Int) (x17 : Int) (x18 : Int) (x19 : Int) (x20 : Int) : Tr (Ex × List At) :=
 .br 52 (decide (x3 < x2))
 (.br 54 (within x3 x1)
 (.br 200060 (within (IntKind.wrap IntKind.i64 ((1 : Int) + x3)) (8 : Nat))
 (.ok (.normal, [(.n (x0)), (.n (x1)), (.i (x2)), (.i (IntKind.wrap IntKind.i64 (x3 + (1 : Int)))), (.r (n4) (g4)), (.i (x5)), (.i (x6)), (.i (x7)), (.i (x8)), (.i (x9)), (.i (x10)), (.i (x11)), (.i (x12)), (.i (bif Nat.beq (Int.toNat (IntKind.wrap IntKind.i64 ((1 : Int) + x3))) (0 : Nat) then IntKind.wrap IntKind.u64 (g4 (x0 + Int.toNat x3) (0 : Nat)) else x13)), (.i (bif Nat.beq (Int.toNat (IntKind.wrap IntKind.i64 ((1 : Int) + x3))) (1 : Nat) then IntKind.wrap IntKind.u64 (g4 (x0 + Int.toNat x3) (0 : Nat)) else x14)), (.i (bif Nat.beq (Int.toNat (IntKind.wrap IntKind.i64 ((1 : Int) + x3))) (2 : Nat) then IntKind.wrap IntKind.u64 (g4 (x0 + Int.toNat x3) (0 : Nat)) else x15)), (.i (bif Nat.beq (Int.toNat (IntKind.wrap IntKind.i64 ((1 : Int) + x3))) (3 : Nat) then IntKind.wrap IntKind.u64 (g4 (x0 + Int.toNat x3) (0 : Nat)) else x16)), (.i (bif Nat.beq (Int.toNat (IntKind.wrap IntKind.i64 ((1 : Int) + x3))) (4 : Nat) then IntKind.wrap IntKind.u64 (g4 (x0 + Int.toNat x3) (0 : Nat)) else x17)), (.i (bif Nat.beq (Int.toNat (IntKind.wrap IntKind.i64 ((1 : Int) + x3))) (5 : Nat) then IntKind.wrap IntKind.u64 (g4 (x0 + Int.toNat x3) (0 : Nat)) else x18)), (.i (bif Nat.beq (Int.toNat (IntKind.wrap IntKind.i64 ((1 : Int) + x3))) (6 : Nat) then IntKind.wrap IntKind.u64 (g4 (x0 + Int.toNat x3) (0 : Nat)) else x19)), (.i (bif Nat.beq (Int.toNat (IntKind.wrap IntKind.i64 ((1 : Int) + x3))) (7 : Nat) then IntKind.wrap IntKind.u64 (g4 (x0 + Int.toNat x3) (0 : Nat)) else x20))]))
 (.no))
 (.no))
 (.ok (.exit 0, [(.i (x5)), (.i (x6)), (.i (x7)), (.i (x8)), (.i (x9)), (.i (x10)), (.i (x11)), (.i (x12)), (.i (x13)), (.i (x14)), (.i (x15)), (.i (x16)), (.i (x17)), (.i (x18)), (.i (x19)), (.i (x20))]))
def y_gLine_7 : Nat → Option Nat := (syOf3 [52, 54] [] [60])
def BL_gLine_7 (l : List At) : Tr (Ex × List At) := B_gLine_7 (aN l 0) (aN l 1) (aI l 2) (aI l 3) (aRn l 4) (aRg l 4) (aI l 5) (aI l 6) (aI l 7) (aI l 8) (aI l 9) (aI l 10) (aI l 11) (aI l 12) (aI l 13) (aI l 14) (aI l 15) (aI l 16) (aI l 17) (aI l 18) (aI l 19) (aI l 20)
theorem eB_gLine_7 (l : List At) : (exec Try.prog Γ_hasF y_gLine_7 noLoops 100 (loopAt Try.f8 7) ⟨mkV lsh_gLine_7 l, mkH lsh_gLine_7 l⟩).bind (leafL 1 xs_gLine_7) = BL_gLine_7 l := by kernel_rfl
/- by hand: O_gLine_7 (x0 : Nat) (x1 : Nat) (x2 : Int) (x3 : Int) (n4 : Nat) (g4 : Nat → Nat → Int) (x5 : Int) (x6 : Int) (x7 : Int) (x8 : Int) (x9 : Int) (x10 : Int) (x11 : Int) (x12 : Int) (x13 : Int) (x14 : Int) (x15 : Int) (x16 : Int) (x17 : Int) (x18 : Int) (x19 : Int) (x20 : Int) : Tr (Ex × List At); OL_gLine_7 (l) := O_gLine_7 (aN l 0) (aN l 1) (aI l 2) (aI l 3) (aRn l 4) (aRg l 4) (aI l 5) (aI l 6) (aI l 7) (aI l 8) (aI l 9) (aI l 10) (aI l 11) (aI l 12) (aI l 13) (aI l 14) (aI l 15) (aI l 16) (aI l 17) (aI l 18) (aI l 19) (aI l 20); μ_gLine_7 : List At → Nat; rd_gLine_7 : ∀ l r, (OL_gLine_7 l).val = some r → RoundA BL_gLine_7 OL_gLine_7 μ_gLine_7 l r -/

/-! ### the loop at 7 of rLine -/

def lsh_rLine_7 : FSh := ⟨[.any, .v false [.sq 0 1], .any, .any, .v false [.p 1 0], .any, .v false [.p 2 0], .any, .v false [.k (.n .i64)], .any, .any, .any, .any, .any, .any, .any, .any, .any, .any, .any, .any, .any, .any, .any, .any, .any, .any, .any, .any, .any, .any, .any, .any, .any, .any, .any, .any, .any, .any, .any, .any, .any, .any, .any, .any, .any, .any, .any, .any, .any, .any, .any, .any, .any, .any, .any, .any, .any, .any, .any, .any, .any, .any, .any, .any, .any, .any, .any, .any, .any, .any, .any, .any, .any], [.rows [.n .i64] false, .cells [.k (.n .u64), .k (.n .u64), .k (.n .u64), .k (.n .u64), .k (.n .u64), .k (.n .u64), .k (.n .u64), .k (.n .u64)], .cells [.k (.n .u64), .k (.n .u64), .k (.n .u64), .k (.n .u64), .k (.n .u64), .k (.n .u64), .k (.n .u64), .k (.n .u64)]]⟩
def xsh_rLine_7_0 : FSh := ⟨[.any, .any, .any, .any, .v false [.p 1 0], .any, .v false [.p 2 0], .any, .any, .any, .any, .any, .any, .any, .any, .any, .any, .any, .any, .any, .any, .any, .any, .any, .any, .any, .any, .any, .any, .any, .any, .any, .any, .any, .any, .any, .any, .any, .any, .any, .any, .any, .any, .any, .any, .any, .any, .any, .any, .any, .any, .any, .any, .any, .any, .any, .any, .any, .any, .any, .any, .any, .any, .any, .any, .any, .any, .any, .any, .any, .any, .any, .any, .any], [.no, .cells [.k (.n .u64), .k (.n .u64), .k (.n .u64), .k (.n .u64), .k (.n .u64), .k (.n .u64), .k (.n .u64), .k (.n .u64)], .cells [.k (.n .u64), .k (.n .u64), .k (.n .u64), .k (.n .u64), .k (.n .u64), .k (.n .u64), .k (.n .u64), .k (.n .u64)]]⟩
def xsh_rLine_7_1 : FSh := ⟨[.any, .any, .any, .any, .v false [.p 1 0], .v false [.k (.n .i64)], .any, .any, .any, .any, .any, .any, .any, .any, .any, .any, .any, .any, .any, .any, .any, .any, .any, .any, .any, .any, .any, .any, .any, .any, .any, .any, .any, .any, .any, .any, .any, .any, .any, .any, .any, .any, .any, .any, .any, .any, .any, .any, .any, .any, .any, .any, .any, .any, .any, .any, .any, .any, .any, .any, .any, .any, .any, .any, .any, .any, .any, .any, .any, .any, .any, .any, .any, .any], [.no, .cells [.k (.n .u64), .k (.n .u64), .k (.n .u64), .k (.n .u64), .k (.n .u64), .k (.n .u64), .k (.n .u64), .k (.n .u64)]]⟩
def xs_rLine_7 : Exs := fun e => match e with
  | .normal => some lsh_rLine_7
  | .exit n => (match Nat.beq n 0 with | true => some xsh_rLine_7_0 | false => none)
  | .ret => some xsh_rLine_7_1
def B_rLine_7 (x0 : Nat) (x1 : Nat) (x2 : Int) (n3 : Nat) (g3 : Nat → Nat → Int) (x4 : Int) (x5 : Int) (x6 : Int) (x7 : Int) (x8 : Int) (x9 : Int) (x10 : Int) (x11 : Int) (x12 : Int) (x13 : Int) (x14 : Int) (x15 : Int) (x16 : Int) (x17 : Int) (x18 : Int) (x19 : Int) : Tr (Ex × List At) :=
 .br 49 (decide (x2 < (↑x1 : Int)))
 (.br 54 (within x2 x1)
 (.br 57 (decide (g3 (x0 + Int.toNat x2) (0 : Nat) < (0 : Int)))
 (.ok (.ret, [(.i ((1 : Int))), (.i ((0 : Int))), (.i ((0 : Int))), (.i ((0 : Int))), (.i ((0 : Int))), (.i ((0 : Int))), (.i ((0 : Int))), (.i ((0 : Int))), (.i ((0 : Int)))]))
 (.br 60 (within x2 x1)
 (.br 63 (decide (g3 (x0 + Int.toNat x2) (0 : Nat) ≥ (49 : Int)))
 (.ok (.ret, [(.i ((1 : Int))), (.i ((0 : Int))), (.i ((0 : Int))), (.i ((0 : Int))), (.i ((0 : Int))), (.i ((0 : Int))), (.i ((0 : Int))), (.i ((0 : Int))), (.i ((0 : Int)))]))
 (.br 69 (within x2 x1)
 (.br 200072 (within (IntKind.wrap IntKind.i64 (x2 + (1 : Int))) (8 : Nat))
 (.ok (.normal, [(.n (x0)), (.n (x1)), (.i (IntKind.wrap IntKind.i64 (x2 + (1 : Int)))), (.r (n3) (g3)), (.i (x4)), (.i (x5)), (.i (x6)), (.i (x7)), (.i (x8)), (.i (x9)), (.i (x10)), (.i (x11)), (.i (bif Nat.beq (Int.toNat (IntKind.wrap IntKind.i64 (x2 + (1 : Int)))) (0 : Nat) then IntKind.wrap IntKind.u64 (g3 (x0 + Int.toNat x2) (0 : Nat)) else x12)), (.i (bif Nat.beq (Int.toNat (IntKind.wrap IntKind.i64 (x2 + (1 : Int)))) (1 : Nat) then IntKind.wrap IntKind.u64 (g3 (x0 + Int.toNat x2) (0 : Nat)) else x13)), (.i (bif Nat.beq (Int.toNat (IntKind.wrap IntKind.i64 (x2 + (1 : Int)))) (2 : Nat) then IntKind.wrap IntKind.u64 (g3 (x0 + Int.toNat x2) (0 : Nat)) else x14)), (.i (bif Nat.beq (Int.toNat (IntKind.wrap IntKind.i64 (x2 + (1 : Int)))) (3 : Nat) then IntKind.wrap IntKind.u64 (g3 (x0 + Int.toNat x2) (0 : Nat)) else x15)), (.i (bif Nat.beq (Int.toNat (IntKind.wrap IntKind.i64 (x2 + (1 : Int)))) (4 : Nat) then IntKind.wrap IntKind.u64 (g3 (x0 + Int.toNat x2) (0 : Nat)) else x16)), (.i (bif Nat.beq (Int.toNat (IntKind.wrap IntKind.i64 (x2 + (1 : Int)))) (5 : Nat) then IntKind.wrap IntKind.u64 (g3 (x0 + Int.toNat x2) (0 : Nat)) else x17)), (.i (bif Nat.beq (Int.toNat (IntKind.wrap IntKind.i64 (x2 + (1 : Int)))) (6 : Nat) then IntKind.wrap IntKind.u64 (g3 (x0 + Int.toNat x2) (0 : Nat)) else x18)), (.i (bif Nat.beq (Int.toNat (IntKind.wrap IntKind.i64 (x2 + (1 : Int)))) (7 : Nat) then IntKind.wrap IntKind.u64 (g3 (x0 + Int.toNat x2) (0 : Nat)) else x19))]))
 (.no))
 (.no)))
 (.no)))
 (.no))
 (.ok (.exit 0, [(.i (x4)), (.i (x5)), (.i (x6)), (.i (x7)), (.i (x8)), (.i (x9)), (.i (x10)), (.i (x11)), (.i (x12)), (.i (x13)), (.i (x14)), (.i (x15)), (.i (x16)), (.i (x17)), (.i (x18)), (.i (x19))]))
def y_rLine_7 : Nat → Option Nat := (syOf3 [49, 54, 57, 60, 63, 69] [] [72])
def BL_rLine_7 (l : List At) : Tr (Ex × List At) := B_rLine_7 (aN l 0) (aN l 1) (aI l 2) (aRn l 3) (aRg l 3) (aI l 4) (aI l 5) (aI l 6) (aI l 7) (aI l 8) (aI l 9) (aI l 10) (aI l 11) (aI l 12) (aI l 13) (aI l 14) (aI l 15) (aI l 16) (aI l 17) (aI l 18) (aI l 19)
theorem eB_rLine_7 (l : List At) : (exec Try.prog Γ_hasF y_rLine_7 noLoops 100 (loopAt Try.f9 7) ⟨mkV lsh_rLine_7 l, mkH lsh_rLine_7 l⟩).bind (leafL 1 xs_rLine_7) = BL_rLine_7 l := by kernel_rfl
/- by hand: O_rLine_7 (x0 : Nat) (x1 : Nat) (x2 : Int) (n3 : Nat) (g3 : Nat → Nat → Int) (x4 : Int) (x5 : Int) (x6 : Int) (x7 : Int) (x8 : Int) (x9 : Int) (x10 : Int) (x11 : Int) (x12 : Int) (x13 : Int) (x14 : Int) (x15 : Int) (x16 : Int) (x17 : Int) (x18 : Int) (x19 : Int) : Tr (Ex × List At); OL_rLine_7 (l) := O_rLine_7 (aN l 0) (aN l 1) (aI l 2) (aRn l 3) (aRg l 3) (aI l 4) (aI l 5) (aI l 6) (aI l 7) (aI l 8) (aI l 9) (aI l 10) (aI l 11) (aI l 12) (aI l 13) (aI l 14) (aI l 15) (aI l 16) (aI l 17) (aI l 18) (aI l 19); μ_rLine_7 : List At → Nat; rd_rLine_7 : ∀ l r, (OL_rLine_7 l).val = some r → RoundA BL_rLine_7 OL_rLine_7 μ_rLine_7 l r -/

end Go.Proofs.Ytepdekambalmhaa.G
end

/-
  What the loops that lay the numbers into a gate's line come to.
-/
section
namespace Go.Proofs.Ytepdekambalmhaa.G
open Go Go.AM Go.Proofs

/-- The word 'j' of a line, behind the numbers 'i' to 'n' - 1 laid into it. -/
def put (i n : Int) (g : Nat → Int) (j : Nat) (c : Int) : Int := bif decide (i < (j : Int) ∧ (j : Int) ≤ n) then IntKind.u64.wrap (g (j - 1)) else c

theorem put_step {i n : Int} {g : Nat → Int} (h0 : 0 ≤ i) (h1 : i < n) (j : Nat) (c : Int) : put (i + 1) n g j (bif Nat.beq (i + 1).toNat j then IntKind.u64.wrap (g i.toNat) else c) = put i n g j c := by
  unfold put
  by_cases hj : (i + 1).toNat = j
  · have e1 : decide (i + 1 < (j : Int) ∧ (j : Int) ≤ n) = false := decide_eq_false (by omega)
    have e2 : decide (i < (j : Int) ∧ (j : Int) ≤ n) = true := decide_eq_true (by omega)
    have e3 : Nat.beq (i + 1).toNat j = true := by rw [hj]; exact Nat.beq_refl j
    rw [e1, e2, e3, cond_true, cond_true, cond_false, show j - 1 = i.toNat by omega]
  · have e1 : decide (i + 1 < (j : Int) ∧ (j : Int) ≤ n) = decide (i < (j : Int) ∧ (j : Int) ≤ n) := decide_eq_decide.2 (by omega)
    have e3 : Nat.beq (i + 1).toNat j = false := by
      cases hb : Nat.beq (i + 1).toNat j with
      | false => rfl
      | true => exact (hj (Nat.eq_of_beq_eq_true hb)).elim
    rw [e1, e3, cond_false]
theorem put_end {i n : Int} {g : Nat → Int} (h : n ≤ i) (j : Nat) (c : Int) : put i n g j c = c := by
  unfold put
  rw [decide_eq_false (by omega)]; rfl

def O_gLine_7 (x0 : Nat) (x1 : Nat) (x2 x3 : Int) (_n4 : Nat) (g4 : Nat → Nat → Int) (x5 x6 x7 x8 x9 x10 x11 x12 x13 x14 x15 x16 x17 x18 x19 x20 : Int) : Tr (Ex × List At) :=
  .br 0 (decide (0 ≤ x3 ∧ x2 = x1 ∧ x3 ≤ x2 ∧ x2 ≤ 7)) (.ok (.exit 0, [.i x5, .i x6, .i x7, .i x8, .i x9, .i x10, .i x11, .i x12, .i (put (x3) (x2) (fun k => g4 (x0 + k) 0) 0 x13), .i (put (x3) (x2) (fun k => g4 (x0 + k) 0) 1 x14), .i (put (x3) (x2) (fun k => g4 (x0 + k) 0) 2 x15), .i (put (x3) (x2) (fun k => g4 (x0 + k) 0) 3 x16), .i (put (x3) (x2) (fun k => g4 (x0 + k) 0) 4 x17), .i (put (x3) (x2) (fun k => g4 (x0 + k) 0) 5 x18), .i (put (x3) (x2) (fun k => g4 (x0 + k) 0) 6 x19), .i (put (x3) (x2) (fun k => g4 (x0 + k) 0) 7 x20)])) .no
def OL_gLine_7 (l : List At) : Tr (Ex × List At) := O_gLine_7 (aN l 0) (aN l 1) (aI l 2) (aI l 3) (aRn l 4) (aRg l 4) (aI l 5) (aI l 6) (aI l 7) (aI l 8) (aI l 9) (aI l 10) (aI l 11) (aI l 12) (aI l 13) (aI l 14) (aI l 15) (aI l 16) (aI l 17) (aI l 18) (aI l 19) (aI l 20)
def μ_gLine_7 (l : List At) : Nat := (aI l 2 - aI l 3).toNat

theorem rd_gLine_7 : ∀ l r, (OL_gLine_7 l).val = some r → RoundS BL_gLine_7 OL_gLine_7 μ_gLine_7 l r := by
  intro l r h
  obtain ⟨hc, h⟩ := guard_val h
  simp only [decide_eq_true_eq] at hc
  obtain ⟨c0, c1, c2, c3⟩ := hc
  unfold RoundS BL_gLine_7 B_gLine_7
  refine brC (fun h1 => ?_) (fun h1 => ?_)
  · simp only [decide_eq_true_eq] at h1
    have hw : IntKind.i64.wrap (aI l 3 + 1) = aI l 3 + 1 := wrap_i64 (by omega) (by omega)
    have hw2 : IntKind.i64.wrap (1 + aI l 3) = aI l 3 + 1 := by rw [Int.add_comm]; exact hw
    rw [hw, hw2]
    refine brT (by simp only [within, Bool.and_eq_true, decide_eq_true_eq]; omega) (brT (by simp only [within, Bool.and_eq_true, decide_eq_true_eq]; omega) ?_)
    refine on_ _ r (AtsEq.refl _) ?_ ?_ rfl (AtsEq.refl _)
    · show (aI l 2 - (aI l 3 + 1)).toNat < (aI l 2 - aI l 3).toNat
      omega
    · have hp := put_step (i := aI l 3) (n := aI l 2) (g := fun k => aRg l 4 (aN l 0 + k) 0) c0 h1
      refine (br_t (g := 0) ?_).trans (Eq.trans (congrArg (fun z => (Tr.ok (Ex.exit 0, z)).val) ?_) h)
      · show decide (0 ≤ aI l 3 + 1 ∧ aI l 2 = aN l 1 ∧ aI l 3 + 1 ≤ aI l 2 ∧ aI l 2 ≤ 7) = true
        simp only [decide_eq_true_eq]; omega
      · exact congrArg (List.cons _) (congrArg (List.cons _) (congrArg (List.cons _) (congrArg (List.cons _) (congrArg (List.cons _) (congrArg (List.cons _) (congrArg (List.cons _) (congrArg (List.cons _) (congr (congrArg List.cons (congrArg At.i (hp 0 (aI l 13)))) (congr (congrArg List.cons (congrArg At.i (hp 1 (aI l 14)))) (congr (congrArg List.cons (congrArg At.i (hp 2 (aI l 15)))) (congr (congrArg List.cons (congrArg At.i (hp 3 (aI l 16)))) (congr (congrArg List.cons (congrArg At.i (hp 4 (aI l 17)))) (congr (congrArg List.cons (congrArg At.i (hp 5 (aI l 18)))) (congr (congrArg List.cons (congrArg At.i (hp 6 (aI l 19)))) (congr (congrArg List.cons (congrArg At.i (hp 7 (aI l 20)))) (rfl))))))))))))))))
  · simp only [decide_eq_false_iff_not] at h1
    have := val_ok h
    subst this
    refine out_ (by simp) rfl ?_
    simp only [put_end (show aI l 2 ≤ aI l 3 by omega)]
    exact AtsEq.refl _

def O_rLine_7 (x0 : Nat) (x1 : Nat) (x2 : Int) (_n3 : Nat) (g3 : Nat → Nat → Int) (x4 x5 x6 x7 x8 x9 x10 x11 x12 x13 x14 x15 x16 x17 x18 x19 : Int) : Tr (Ex × List At) :=
  .br 0 (decide (0 ≤ x2 ∧ x2 ≤ x1 ∧ x1 ≤ 7)) (.br 0 (decide (findI (fun k => decide (g3 (x0 + k) 0 < 0) || decide (g3 (x0 + k) 0 ≥ 49)) (x1 - x2).toNat x2.toNat < x1)) (.ok (.ret, [At.i 1, At.i 0, At.i 0, At.i 0, At.i 0, At.i 0, At.i 0, At.i 0, At.i 0]))
    (.ok (.exit 0, [.i x4, .i x5, .i x6, .i x7, .i x8, .i x9, .i x10, .i x11, .i (put (x2) (x1) (fun k => g3 (x0 + k) 0) 0 x12), .i (put (x2) (x1) (fun k => g3 (x0 + k) 0) 1 x13), .i (put (x2) (x1) (fun k => g3 (x0 + k) 0) 2 x14), .i (put (x2) (x1) (fun k => g3 (x0 + k) 0) 3 x15), .i (put (x2) (x1) (fun k => g3 (x0 + k) 0) 4 x16), .i (put (x2) (x1) (fun k => g3 (x0 + k) 0) 5 x17), .i (put (x2) (x1) (fun k => g3 (x0 + k) 0) 6 x18), .i (put (x2) (x1) (fun k => g3 (x0 + k) 0) 7 x19)]))) .no
def OL_rLine_7 (l : List At) : Tr (Ex × List At) := O_rLine_7 (aN l 0) (aN l 1) (aI l 2) (aRn l 3) (aRg l 3) (aI l 4) (aI l 5) (aI l 6) (aI l 7) (aI l 8) (aI l 9) (aI l 10) (aI l 11) (aI l 12) (aI l 13) (aI l 14) (aI l 15) (aI l 16) (aI l 17) (aI l 18) (aI l 19)
def μ_rLine_7 (l : List At) : Nat := (aN l 1 - aI l 2).toNat

theorem rd_rLine_7 : ∀ l r, (OL_rLine_7 l).val = some r → RoundS BL_rLine_7 OL_rLine_7 μ_rLine_7 l r := by
  intro l r h
  obtain ⟨hc, h⟩ := guard_val h
  simp only [decide_eq_true_eq] at hc
  obtain ⟨c0, c1, c2⟩ := hc
  unfold RoundS BL_rLine_7 B_rLine_7
  refine brC (fun h1 => ?_) (fun h1 => ?_)
  · simp only [decide_eq_true_eq] at h1
    have hw : IntKind.i64.wrap (aI l 2 + 1) = aI l 2 + 1 := wrap_i64 (by omega) (by omega)
    have hin : within (aI l 2) (aN l 1) = true := by simp only [within, Bool.and_eq_true, decide_eq_true_eq]; omega
    rw [hw]
    have hit : ∀ {Q}, (decide (aRg l 3 (aN l 0 + (aI l 2).toNat) 0 < 0) || decide (aRg l 3 (aN l 0 + (aI l 2).toNat) 0 ≥ 49)) = true → (r = (.ret, [At.i 1, At.i 0, At.i 0, At.i 0, At.i 0, At.i 0, At.i 0, At.i 0, At.i 0]) → Q) → Q := by
      intro Q hb k
      have hf := findI_hit (p := (fun k => decide (aRg l 3 (aN l 0 + k) 0 < 0) || decide (aRg l 3 (aN l 0 + k) 0 ≥ 49))) (m := (aN l 1 - aI l 2).toNat) (i := (aI l 2).toNat) (by omega) hb
      rw [hf, br_t (by simp only [decide_eq_true_eq]; omega)] at h
      exact k (val_ok h).symm
    refine brT hin (brC (fun h3 => ?_) (fun h3 => brT hin (brC (fun h4 => ?_) (fun h4 => brT hin (brT (by simp only [within, Bool.and_eq_true, decide_eq_true_eq]; omega) ?_)))))
    · exact hit (by rw [h3]; rfl) fun e => by subst e; exact out_ (by simp) rfl (AtsEq.refl _)
    · exact hit (by rw [h4, Bool.or_true]) fun e => by subst e; exact out_ (by simp) rfl (AtsEq.refl _)
    · have hf := findI_step (p := (fun k => decide (aRg l 3 (aN l 0 + k) 0 < 0) || decide (aRg l 3 (aN l 0 + k) 0 ≥ 49))) (m := (aN l 1 - aI l 2).toNat) (m' := (aN l 1 - (aI l 2 + 1)).toNat) (i := (aI l 2).toNat) (by omega) (by show (_ || _) = false; rw [h3, h4]; rfl)
      rw [hf, show (aI l 2).toNat + 1 = (aI l 2 + 1).toNat by omega] at h
      refine on_ _ r (AtsEq.refl _) ?_ ?_ rfl (AtsEq.refl _)
      · show (aN l 1 - (aI l 2 + 1)).toNat < (aN l 1 - aI l 2).toNat
        omega
      · have hp := put_step (i := aI l 2) (n := aN l 1) (g := fun k => aRg l 3 (aN l 0 + k) 0) c0 h1
        refine (br_t (g := 0) ?_).trans (Eq.trans (congrArg (fun z => (Tr.br 0 (decide (findI (fun k => decide (aRg l 3 (aN l 0 + k) 0 < 0) || decide (aRg l 3 (aN l 0 + k) 0 ≥ 49)) (aN l 1 - (aI l 2 + 1)).toNat (aI l 2 + 1).toNat < aN l 1)) (Tr.ok (Ex.ret, [At.i 1, At.i 0, At.i 0, At.i 0, At.i 0, At.i 0, At.i 0, At.i 0, At.i 0])) (Tr.ok (Ex.exit 0, z))).val) ?_) h)
        · show decide (0 ≤ aI l 2 + 1 ∧ aI l 2 + 1 ≤ aN l 1 ∧ aN l 1 ≤ 7) = true
          simp only [decide_eq_true_eq]; omega
        · exact congrArg (List.cons _) (congrArg (List.cons _) (congrArg (List.cons _) (congrArg (List.cons _) (congrArg (List.cons _) (congrArg (List.cons _) (congrArg (List.cons _) (congrArg (List.cons _) (congr (congrArg List.cons (congrArg At.i (hp 0 (aI l 12)))) (congr (congrArg List.cons (congrArg At.i (hp 1 (aI l 13)))) (congr (congrArg List.cons (congrArg At.i (hp 2 (aI l 14)))) (congr (congrArg List.cons (congrArg At.i (hp 3 (aI l 15)))) (congr (congrArg List.cons (congrArg At.i (hp 4 (aI l 16)))) (congr (congrArg List.cons (congrArg At.i (hp 5 (aI l 17)))) (congr (congrArg List.cons (congrArg At.i (hp 6 (aI l 18)))) (congr (congrArg List.cons (congrArg At.i (hp 7 (aI l 19)))) (rfl))))))))))))))))
  · simp only [decide_eq_false_iff_not] at h1
    have e : (aN l 1 - aI l 2).toNat = 0 := by omega
    rw [e, br_f (decide_eq_false (by simp only [findI]; omega))] at h
    have := val_ok h
    subst this
    refine out_ (by simp) rfl ?_
    simp only [put_end (show (aN l 1 : Int) ≤ aI l 2 by omega)]
    exact AtsEq.refl _
end Go.Proofs.Ytepdekambalmhaa.G
end

/-
  What functions of the seat compute, printed by a program from the explorer.
-/
section
namespace Go.Proofs.Ytepdekambalmhaa.G
open Go Go.AM Go.Proofs
theorem f_gLine_7 : LoopF Try.prog 1 (loopAt Try.f8 7) (loopFn 1 lsh_gLine_7 xs_gLine_7 OL_gLine_7) :=
  loop_sat (sy := y_gLine_7) (fuel := 100) (Lp := noLoops) o_hasF mixed (loopsOK_at (noLoops_ok _) 7) rfl eB_gLine_7 rd_gLine_7
def Lp_gLine_7 : Loops := Loops.set noLoops 7 (loopFn 1 lsh_gLine_7 xs_gLine_7 OL_gLine_7)
theorem lk_gLine_7 : LoopsFn Try.prog 1 Lp_gLine_7 Try.f8 := loopsFn_set (noLoops_ok _) (by kernel_rfl) f_gLine_7

theorem f_rLine_7 : LoopF Try.prog 1 (loopAt Try.f9 7) (loopFn 1 lsh_rLine_7 xs_rLine_7 OL_rLine_7) :=
  loop_sat (sy := y_rLine_7) (fuel := 100) (Lp := noLoops) o_hasF mixed (loopsOK_at (noLoops_ok _) 7) rfl eB_rLine_7 rd_rLine_7
def Lp_rLine_7 : Loops := Loops.set noLoops 7 (loopFn 1 lsh_rLine_7 xs_rLine_7 OL_rLine_7)
theorem lk_rLine_7 : LoopsFn Try.prog 1 Lp_rLine_7 Try.f9 := loopsFn_set (noLoops_ok _) (by kernel_rfl) f_rLine_7

/-! ### gLine -/

def ish_gLine : FSh := ⟨[.v false [.k (.n .i64)], .v false [.vw 0 1]], [.rows [.n .i64] false]⟩
def osh_gLine : FSh := ⟨[.tup [(true, [.k (.n .u64), .k (.n .u64), .k (.n .u64), .k (.n .u64), .k (.n .u64), .k (.n .u64), .k (.n .u64), .k (.n .u64)]), (false, [.k (.n .i64)])]], [.no]⟩
def T_gLine (x0 : Int) (n1 : Nat) (g1 : Nat → Nat → Int) : Tr (List At) :=
 .br 13 (x0 == (0 : Int))
 (.br 32 (!(↑n1 : Int) == (0 : Int))
 (.br 36 (!bif r_waits_0 x0 then bif decide ((↑n1 : Int) > (0 : Int)) then decide ((↑n1 : Int) ≤ (7 : Int)) else false else false)
 (.ok [(.i ((0 : Int))), (.i ((0 : Int))), (.i ((0 : Int))), (.i ((0 : Int))), (.i ((0 : Int))), (.i ((0 : Int))), (.i ((0 : Int))), (.i ((0 : Int))), (.i ((1 : Int)))])
 (.br 0 (ok_hasF n1 fun (j cc : Nat) => g1 ((0 : Nat) + j) cc)
 (.br 39 (r_hasF_0 n1 fun (j cc : Nat) => g1 ((0 : Nat) + j) cc)
 (.ok [(.i ((0 : Int))), (.i ((0 : Int))), (.i ((0 : Int))), (.i ((0 : Int))), (.i ((0 : Int))), (.i ((0 : Int))), (.i ((0 : Int))), (.i ((0 : Int))), (.i ((1 : Int)))])
 (.br 0 (decide ((0 : Int) ≤ (0 : Int) ∧ (↑n1 : Int) = (↑n1 : Int) ∧ (0 : Int) ≤ (↑n1 : Int) ∧ (↑n1 : Int) ≤ (7 : Int)))
 (.ok [(.i (put (0 : Int) (↑n1 : Int) (fun (k : Nat) => g1 ((0 : Nat) + k) (0 : Nat)) (0 : Nat) (bits BinOp.or IntKind.u64 (IntKind.wrap IntKind.u64 x0) (IntKind.wrap IntKind.u64 (IntKind.wrap IntKind.u64 (↑n1 : Int) * (16 : Int)))))), (.i (put (0 : Int) (↑n1 : Int) (fun (k : Nat) => g1 ((0 : Nat) + k) (0 : Nat)) (1 : Nat) (0 : Int))), (.i (put (0 : Int) (↑n1 : Int) (fun (k : Nat) => g1 ((0 : Nat) + k) (0 : Nat)) (2 : Nat) (0 : Int))), (.i (put (0 : Int) (↑n1 : Int) (fun (k : Nat) => g1 ((0 : Nat) + k) (0 : Nat)) (3 : Nat) (0 : Int))), (.i (put (0 : Int) (↑n1 : Int) (fun (k : Nat) => g1 ((0 : Nat) + k) (0 : Nat)) (4 : Nat) (0 : Int))), (.i (put (0 : Int) (↑n1 : Int) (fun (k : Nat) => g1 ((0 : Nat) + k) (0 : Nat)) (5 : Nat) (0 : Int))), (.i (put (0 : Int) (↑n1 : Int) (fun (k : Nat) => g1 ((0 : Nat) + k) (0 : Nat)) (6 : Nat) (0 : Int))), (.i (put (0 : Int) (↑n1 : Int) (fun (k : Nat) => g1 ((0 : Nat) + k) (0 : Nat)) (7 : Nat) (0 : Int))), (.i ((0 : Int)))])
 (.no)))
 (.no)))
 (.br 0 (ok_hasF n1 fun (j cc : Nat) => g1 ((0 : Nat) + j) cc)
 (.br 39 (r_hasF_0 n1 fun (j cc : Nat) => g1 ((0 : Nat) + j) cc)
 (.ok [(.i ((0 : Int))), (.i ((0 : Int))), (.i ((0 : Int))), (.i ((0 : Int))), (.i ((0 : Int))), (.i ((0 : Int))), (.i ((0 : Int))), (.i ((0 : Int))), (.i ((1 : Int)))])
 (.br 0 (decide ((0 : Int) ≤ (0 : Int) ∧ (↑n1 : Int) = (↑n1 : Int) ∧ (0 : Int) ≤ (↑n1 : Int) ∧ (↑n1 : Int) ≤ (7 : Int)))
 (.ok [(.i (put (0 : Int) (↑n1 : Int) (fun (k : Nat) => g1 ((0 : Nat) + k) (0 : Nat)) (0 : Nat) (bits BinOp.or IntKind.u64 (IntKind.wrap IntKind.u64 x0) (IntKind.wrap IntKind.u64 (IntKind.wrap IntKind.u64 (↑n1 : Int) * (16 : Int)))))), (.i (put (0 : Int) (↑n1 : Int) (fun (k : Nat) => g1 ((0 : Nat) + k) (0 : Nat)) (1 : Nat) (0 : Int))), (.i (put (0 : Int) (↑n1 : Int) (fun (k : Nat) => g1 ((0 : Nat) + k) (0 : Nat)) (2 : Nat) (0 : Int))), (.i (put (0 : Int) (↑n1 : Int) (fun (k : Nat) => g1 ((0 : Nat) + k) (0 : Nat)) (3 : Nat) (0 : Int))), (.i (put (0 : Int) (↑n1 : Int) (fun (k : Nat) => g1 ((0 : Nat) + k) (0 : Nat)) (4 : Nat) (0 : Int))), (.i (put (0 : Int) (↑n1 : Int) (fun (k : Nat) => g1 ((0 : Nat) + k) (0 : Nat)) (5 : Nat) (0 : Int))), (.i (put (0 : Int) (↑n1 : Int) (fun (k : Nat) => g1 ((0 : Nat) + k) (0 : Nat)) (6 : Nat) (0 : Int))), (.i (put (0 : Int) (↑n1 : Int) (fun (k : Nat) => g1 ((0 : Nat) + k) (0 : Nat)) (7 : Nat) (0 : Int))), (.i ((0 : Int)))])
 (.no)))
 (.no)))
 (.br 32 (true)
 (.br 36 (!bif r_waits_0 x0 then bif decide ((↑n1 : Int) > (0 : Int)) then decide ((↑n1 : Int) ≤ (7 : Int)) else false else false)
 (.ok [(.i ((0 : Int))), (.i ((0 : Int))), (.i ((0 : Int))), (.i ((0 : Int))), (.i ((0 : Int))), (.i ((0 : Int))), (.i ((0 : Int))), (.i ((0 : Int))), (.i ((1 : Int)))])
 (.br 0 (ok_hasF n1 fun (j cc : Nat) => g1 ((0 : Nat) + j) cc)
 (.br 39 (r_hasF_0 n1 fun (j cc : Nat) => g1 ((0 : Nat) + j) cc)
 (.ok [(.i ((0 : Int))), (.i ((0 : Int))), (.i ((0 : Int))), (.i ((0 : Int))), (.i ((0 : Int))), (.i ((0 : Int))), (.i ((0 : Int))), (.i ((0 : Int))), (.i ((1 : Int)))])
 (.br 0 (decide ((0 : Int) ≤ (0 : Int) ∧ (↑n1 : Int) = (↑n1 : Int) ∧ (0 : Int) ≤ (↑n1 : Int) ∧ (↑n1 : Int) ≤ (7 : Int)))
 (.ok [(.i (put (0 : Int) (↑n1 : Int) (fun (k : Nat) => g1 ((0 : Nat) + k) (0 : Nat)) (0 : Nat) (bits BinOp.or IntKind.u64 (IntKind.wrap IntKind.u64 x0) (IntKind.wrap IntKind.u64 (IntKind.wrap IntKind.u64 (↑n1 : Int) * (16 : Int)))))), (.i (put (0 : Int) (↑n1 : Int) (fun (k : Nat) => g1 ((0 : Nat) + k) (0 : Nat)) (1 : Nat) (0 : Int))), (.i (put (0 : Int) (↑n1 : Int) (fun (k : Nat) => g1 ((0 : Nat) + k) (0 : Nat)) (2 : Nat) (0 : Int))), (.i (put (0 : Int) (↑n1 : Int) (fun (k : Nat) => g1 ((0 : Nat) + k) (0 : Nat)) (3 : Nat) (0 : Int))), (.i (put (0 : Int) (↑n1 : Int) (fun (k : Nat) => g1 ((0 : Nat) + k) (0 : Nat)) (4 : Nat) (0 : Int))), (.i (put (0 : Int) (↑n1 : Int) (fun (k : Nat) => g1 ((0 : Nat) + k) (0 : Nat)) (5 : Nat) (0 : Int))), (.i (put (0 : Int) (↑n1 : Int) (fun (k : Nat) => g1 ((0 : Nat) + k) (0 : Nat)) (6 : Nat) (0 : Int))), (.i (put (0 : Int) (↑n1 : Int) (fun (k : Nat) => g1 ((0 : Nat) + k) (0 : Nat)) (7 : Nat) (0 : Int))), (.i ((0 : Int)))])
 (.no)))
 (.no)))
 (.br 0 (ok_hasF n1 fun (j cc : Nat) => g1 ((0 : Nat) + j) cc)
 (.br 39 (r_hasF_0 n1 fun (j cc : Nat) => g1 ((0 : Nat) + j) cc)
 (.ok [(.i ((0 : Int))), (.i ((0 : Int))), (.i ((0 : Int))), (.i ((0 : Int))), (.i ((0 : Int))), (.i ((0 : Int))), (.i ((0 : Int))), (.i ((0 : Int))), (.i ((1 : Int)))])
 (.br 0 (decide ((0 : Int) ≤ (0 : Int) ∧ (↑n1 : Int) = (↑n1 : Int) ∧ (0 : Int) ≤ (↑n1 : Int) ∧ (↑n1 : Int) ≤ (7 : Int)))
 (.ok [(.i (put (0 : Int) (↑n1 : Int) (fun (k : Nat) => g1 ((0 : Nat) + k) (0 : Nat)) (0 : Nat) (bits BinOp.or IntKind.u64 (IntKind.wrap IntKind.u64 x0) (IntKind.wrap IntKind.u64 (IntKind.wrap IntKind.u64 (↑n1 : Int) * (16 : Int)))))), (.i (put (0 : Int) (↑n1 : Int) (fun (k : Nat) => g1 ((0 : Nat) + k) (0 : Nat)) (1 : Nat) (0 : Int))), (.i (put (0 : Int) (↑n1 : Int) (fun (k : Nat) => g1 ((0 : Nat) + k) (0 : Nat)) (2 : Nat) (0 : Int))), (.i (put (0 : Int) (↑n1 : Int) (fun (k : Nat) => g1 ((0 : Nat) + k) (0 : Nat)) (3 : Nat) (0 : Int))), (.i (put (0 : Int) (↑n1 : Int) (fun (k : Nat) => g1 ((0 : Nat) + k) (0 : Nat)) (4 : Nat) (0 : Int))), (.i (put (0 : Int) (↑n1 : Int) (fun (k : Nat) => g1 ((0 : Nat) + k) (0 : Nat)) (5 : Nat) (0 : Int))), (.i (put (0 : Int) (↑n1 : Int) (fun (k : Nat) => g1 ((0 : Nat) + k) (0 : Nat)) (6 : Nat) (0 : Int))), (.i (put (0 : Int) (↑n1 : Int) (fun (k : Nat) => g1 ((0 : Nat) + k) (0 : Nat)) (7 : Nat) (0 : Int))), (.i ((0 : Int)))])
 (.no)))
 (.no)))
def y_gLine : Nat → Option Nat := (syJ [1000002] (syOf3 [13, 20, 25, 32, 36, 39] [] []))
def TL_gLine (l : List At) : Tr (List At) := T_gLine (aI l 0) (aRn l 1) (aRg l 1)
theorem e_gLine (l : List At) : (call Try.prog Γ_hasF y_gLine Lp_gLine_7 100 Try.f8 (mkV ish_gLine l) (mkH ish_gLine l)).bind (leafO 1 osh_gLine) = TL_gLine l := by kernel_rfl
def r_gLine_0 (x0 : Int) (n1 : Nat) (g1 : Nat → Nat → Int) : Int :=
  bif x0 == (0 : Int) then (bif !(↑n1 : Int) == (0 : Int) then (bif !bif r_waits_0 x0 then bif decide ((↑n1 : Int) > (0 : Int)) then decide ((↑n1 : Int) ≤ (7 : Int)) else false else false then ((0 : Int))
  else bif ok_hasF n1 fun (j cc : Nat) => g1 ((0 : Nat) + j) cc then (bif r_hasF_0 n1 fun (j cc : Nat) => g1 ((0 : Nat) + j) cc then ((0 : Int))
  else bif decide ((0 : Int) ≤ (0 : Int) ∧ (↑n1 : Int) = (↑n1 : Int) ∧ (0 : Int) ≤ (↑n1 : Int) ∧ (↑n1 : Int) ≤ (7 : Int)) then (put (0 : Int) (↑n1 : Int) (fun (k : Nat) => g1 ((0 : Nat) + k) (0 : Nat)) (0 : Nat) (bits BinOp.or IntKind.u64 (IntKind.wrap IntKind.u64 x0) (IntKind.wrap IntKind.u64 (IntKind.wrap IntKind.u64 (↑n1 : Int) * (16 : Int)))))
  else 0)
  else 0)
  else bif ok_hasF n1 fun (j cc : Nat) => g1 ((0 : Nat) + j) cc then (bif r_hasF_0 n1 fun (j cc : Nat) => g1 ((0 : Nat) + j) cc then ((0 : Int))
  else bif decide ((0 : Int) ≤ (0 : Int) ∧ (↑n1 : Int) = (↑n1 : Int) ∧ (0 : Int) ≤ (↑n1 : Int) ∧ (↑n1 : Int) ≤ (7 : Int)) then (put (0 : Int) (↑n1 : Int) (fun (k : Nat) => g1 ((0 : Nat) + k) (0 : Nat)) (0 : Nat) (bits BinOp.or IntKind.u64 (IntKind.wrap IntKind.u64 x0) (IntKind.wrap IntKind.u64 (IntKind.wrap IntKind.u64 (↑n1 : Int) * (16 : Int)))))
  else 0)
  else 0)
  else bif true then (bif !bif r_waits_0 x0 then bif decide ((↑n1 : Int) > (0 : Int)) then decide ((↑n1 : Int) ≤ (7 : Int)) else false else false then ((0 : Int))
  else bif ok_hasF n1 fun (j cc : Nat) => g1 ((0 : Nat) + j) cc then (bif r_hasF_0 n1 fun (j cc : Nat) => g1 ((0 : Nat) + j) cc then ((0 : Int))
  else bif decide ((0 : Int) ≤ (0 : Int) ∧ (↑n1 : Int) = (↑n1 : Int) ∧ (0 : Int) ≤ (↑n1 : Int) ∧ (↑n1 : Int) ≤ (7 : Int)) then (put (0 : Int) (↑n1 : Int) (fun (k : Nat) => g1 ((0 : Nat) + k) (0 : Nat)) (0 : Nat) (bits BinOp.or IntKind.u64 (IntKind.wrap IntKind.u64 x0) (IntKind.wrap IntKind.u64 (IntKind.wrap IntKind.u64 (↑n1 : Int) * (16 : Int)))))
  else 0)
  else 0)
  else bif ok_hasF n1 fun (j cc : Nat) => g1 ((0 : Nat) + j) cc then (bif r_hasF_0 n1 fun (j cc : Nat) => g1 ((0 : Nat) + j) cc then ((0 : Int))
  else bif decide ((0 : Int) ≤ (0 : Int) ∧ (↑n1 : Int) = (↑n1 : Int) ∧ (0 : Int) ≤ (↑n1 : Int) ∧ (↑n1 : Int) ≤ (7 : Int)) then (put (0 : Int) (↑n1 : Int) (fun (k : Nat) => g1 ((0 : Nat) + k) (0 : Nat)) (0 : Nat) (bits BinOp.or IntKind.u64 (IntKind.wrap IntKind.u64 x0) (IntKind.wrap IntKind.u64 (IntKind.wrap IntKind.u64 (↑n1 : Int) * (16 : Int)))))
  else 0)
  else 0
def r_gLine_1 (x0 : Int) (n1 : Nat) (g1 : Nat → Nat → Int) : Int :=
  bif x0 == (0 : Int) then (bif !(↑n1 : Int) == (0 : Int) then (bif !bif r_waits_0 x0 then bif decide ((↑n1 : Int) > (0 : Int)) then decide ((↑n1 : Int) ≤ (7 : Int)) else false else false then ((0 : Int))
  else bif ok_hasF n1 fun (j cc : Nat) => g1 ((0 : Nat) + j) cc then (bif r_hasF_0 n1 fun (j cc : Nat) => g1 ((0 : Nat) + j) cc then ((0 : Int))
  else bif decide ((0 : Int) ≤ (0 : Int) ∧ (↑n1 : Int) = (↑n1 : Int) ∧ (0 : Int) ≤ (↑n1 : Int) ∧ (↑n1 : Int) ≤ (7 : Int)) then (put (0 : Int) (↑n1 : Int) (fun (k : Nat) => g1 ((0 : Nat) + k) (0 : Nat)) (1 : Nat) (0 : Int))
  else 0)
  else 0)
  else bif ok_hasF n1 fun (j cc : Nat) => g1 ((0 : Nat) + j) cc then (bif r_hasF_0 n1 fun (j cc : Nat) => g1 ((0 : Nat) + j) cc then ((0 : Int))
  else bif decide ((0 : Int) ≤ (0 : Int) ∧ (↑n1 : Int) = (↑n1 : Int) ∧ (0 : Int) ≤ (↑n1 : Int) ∧ (↑n1 : Int) ≤ (7 : Int)) then (put (0 : Int) (↑n1 : Int) (fun (k : Nat) => g1 ((0 : Nat) + k) (0 : Nat)) (1 : Nat) (0 : Int))
  else 0)
  else 0)
  else bif true then (bif !bif r_waits_0 x0 then bif decide ((↑n1 : Int) > (0 : Int)) then decide ((↑n1 : Int) ≤ (7 : Int)) else false else false then ((0 : Int))
  else bif ok_hasF n1 fun (j cc : Nat) => g1 ((0 : Nat) + j) cc then (bif r_hasF_0 n1 fun (j cc : Nat) => g1 ((0 : Nat) + j) cc then ((0 : Int))
  else bif decide ((0 : Int) ≤ (0 : Int) ∧ (↑n1 : Int) = (↑n1 : Int) ∧ (0 : Int) ≤ (↑n1 : Int) ∧ (↑n1 : Int) ≤ (7 : Int)) then (put (0 : Int) (↑n1 : Int) (fun (k : Nat) => g1 ((0 : Nat) + k) (0 : Nat)) (1 : Nat) (0 : Int))
  else 0)
  else 0)
  else bif ok_hasF n1 fun (j cc : Nat) => g1 ((0 : Nat) + j) cc then (bif r_hasF_0 n1 fun (j cc : Nat) => g1 ((0 : Nat) + j) cc then ((0 : Int))
  else bif decide ((0 : Int) ≤ (0 : Int) ∧ (↑n1 : Int) = (↑n1 : Int) ∧ (0 : Int) ≤ (↑n1 : Int) ∧ (↑n1 : Int) ≤ (7 : Int)) then (put (0 : Int) (↑n1 : Int) (fun (k : Nat) => g1 ((0 : Nat) + k) (0 : Nat)) (1 : Nat) (0 : Int))
  else 0)
  else 0
def r_gLine_2 (x0 : Int) (n1 : Nat) (g1 : Nat → Nat → Int) : Int :=
  bif x0 == (0 : Int) then (bif !(↑n1 : Int) == (0 : Int) then (bif !bif r_waits_0 x0 then bif decide ((↑n1 : Int) > (0 : Int)) then decide ((↑n1 : Int) ≤ (7 : Int)) else false else false then ((0 : Int))
  else bif ok_hasF n1 fun (j cc : Nat) => g1 ((0 : Nat) + j) cc then (bif r_hasF_0 n1 fun (j cc : Nat) => g1 ((0 : Nat) + j) cc then ((0 : Int))
  else bif decide ((0 : Int) ≤ (0 : Int) ∧ (↑n1 : Int) = (↑n1 : Int) ∧ (0 : Int) ≤ (↑n1 : Int) ∧ (↑n1 : Int) ≤ (7 : Int)) then (put (0 : Int) (↑n1 : Int) (fun (k : Nat) => g1 ((0 : Nat) + k) (0 : Nat)) (2 : Nat) (0 : Int))
  else 0)
  else 0)
  else bif ok_hasF n1 fun (j cc : Nat) => g1 ((0 : Nat) + j) cc then (bif r_hasF_0 n1 fun (j cc : Nat) => g1 ((0 : Nat) + j) cc then ((0 : Int))
  else bif decide ((0 : Int) ≤ (0 : Int) ∧ (↑n1 : Int) = (↑n1 : Int) ∧ (0 : Int) ≤ (↑n1 : Int) ∧ (↑n1 : Int) ≤ (7 : Int)) then (put (0 : Int) (↑n1 : Int) (fun (k : Nat) => g1 ((0 : Nat) + k) (0 : Nat)) (2 : Nat) (0 : Int))
  else 0)
  else 0)
  else bif true then (bif !bif r_waits_0 x0 then bif decide ((↑n1 : Int) > (0 : Int)) then decide ((↑n1 : Int) ≤ (7 : Int)) else false else false then ((0 : Int))
  else bif ok_hasF n1 fun (j cc : Nat) => g1 ((0 : Nat) + j) cc then (bif r_hasF_0 n1 fun (j cc : Nat) => g1 ((0 : Nat) + j) cc then ((0 : Int))
  else bif decide ((0 : Int) ≤ (0 : Int) ∧ (↑n1 : Int) = (↑n1 : Int) ∧ (0 : Int) ≤ (↑n1 : Int) ∧ (↑n1 : Int) ≤ (7 : Int)) then (put (0 : Int) (↑n1 : Int) (fun (k : Nat) => g1 ((0 : Nat) + k) (0 : Nat)) (2 : Nat) (0 : Int))
  else 0)
  else 0)
  else bif ok_hasF n1 fun (j cc : Nat) => g1 ((0 : Nat) + j) cc then (bif r_hasF_0 n1 fun (j cc : Nat) => g1 ((0 : Nat) + j) cc then ((0 : Int))
  else bif decide ((0 : Int) ≤ (0 : Int) ∧ (↑n1 : Int) = (↑n1 : Int) ∧ (0 : Int) ≤ (↑n1 : Int) ∧ (↑n1 : Int) ≤ (7 : Int)) then (put (0 : Int) (↑n1 : Int) (fun (k : Nat) => g1 ((0 : Nat) + k) (0 : Nat)) (2 : Nat) (0 : Int))
  else 0)
  else 0
def r_gLine_3 (x0 : Int) (n1 : Nat) (g1 : Nat → Nat → Int) : Int :=
  bif x0 == (0 : Int) then (bif !(↑n1 : Int) == (0 : Int) then (bif !bif r_waits_0 x0 then bif decide ((↑n1 : Int) > (0 : Int)) then decide ((↑n1 : Int) ≤ (7 : Int)) else false else false then ((0 : Int))
  else bif ok_hasF n1 fun (j cc : Nat) => g1 ((0 : Nat) + j) cc then (bif r_hasF_0 n1 fun (j cc : Nat) => g1 ((0 : Nat) + j) cc then ((0 : Int))
  else bif decide ((0 : Int) ≤ (0 : Int) ∧ (↑n1 : Int) = (↑n1 : Int) ∧ (0 : Int) ≤ (↑n1 : Int) ∧ (↑n1 : Int) ≤ (7 : Int)) then (put (0 : Int) (↑n1 : Int) (fun (k : Nat) => g1 ((0 : Nat) + k) (0 : Nat)) (3 : Nat) (0 : Int))
  else 0)
  else 0)
  else bif ok_hasF n1 fun (j cc : Nat) => g1 ((0 : Nat) + j) cc then (bif r_hasF_0 n1 fun (j cc : Nat) => g1 ((0 : Nat) + j) cc then ((0 : Int))
  else bif decide ((0 : Int) ≤ (0 : Int) ∧ (↑n1 : Int) = (↑n1 : Int) ∧ (0 : Int) ≤ (↑n1 : Int) ∧ (↑n1 : Int) ≤ (7 : Int)) then (put (0 : Int) (↑n1 : Int) (fun (k : Nat) => g1 ((0 : Nat) + k) (0 : Nat)) (3 : Nat) (0 : Int))
  else 0)
  else 0)
  else bif true then (bif !bif r_waits_0 x0 then bif decide ((↑n1 : Int) > (0 : Int)) then decide ((↑n1 : Int) ≤ (7 : Int)) else false else false then ((0 : Int))
  else bif ok_hasF n1 fun (j cc : Nat) => g1 ((0 : Nat) + j) cc then (bif r_hasF_0 n1 fun (j cc : Nat) => g1 ((0 : Nat) + j) cc then ((0 : Int))
  else bif decide ((0 : Int) ≤ (0 : Int) ∧ (↑n1 : Int) = (↑n1 : Int) ∧ (0 : Int) ≤ (↑n1 : Int) ∧ (↑n1 : Int) ≤ (7 : Int)) then (put (0 : Int) (↑n1 : Int) (fun (k : Nat) => g1 ((0 : Nat) + k) (0 : Nat)) (3 : Nat) (0 : Int))
  else 0)
  else 0)
  else bif ok_hasF n1 fun (j cc : Nat) => g1 ((0 : Nat) + j) cc then (bif r_hasF_0 n1 fun (j cc : Nat) => g1 ((0 : Nat) + j) cc then ((0 : Int))
  else bif decide ((0 : Int) ≤ (0 : Int) ∧ (↑n1 : Int) = (↑n1 : Int) ∧ (0 : Int) ≤ (↑n1 : Int) ∧ (↑n1 : Int) ≤ (7 : Int)) then (put (0 : Int) (↑n1 : Int) (fun (k : Nat) => g1 ((0 : Nat) + k) (0 : Nat)) (3 : Nat) (0 : Int))
  else 0)
  else 0
def r_gLine_4 (x0 : Int) (n1 : Nat) (g1 : Nat → Nat → Int) : Int :=
  bif x0 == (0 : Int) then (bif !(↑n1 : Int) == (0 : Int) then (bif !bif r_waits_0 x0 then bif decide ((↑n1 : Int) > (0 : Int)) then decide ((↑n1 : Int) ≤ (7 : Int)) else false else false then ((0 : Int))
  else bif ok_hasF n1 fun (j cc : Nat) => g1 ((0 : Nat) + j) cc then (bif r_hasF_0 n1 fun (j cc : Nat) => g1 ((0 : Nat) + j) cc then ((0 : Int))
  else bif decide ((0 : Int) ≤ (0 : Int) ∧ (↑n1 : Int) = (↑n1 : Int) ∧ (0 : Int) ≤ (↑n1 : Int) ∧ (↑n1 : Int) ≤ (7 : Int)) then (put (0 : Int) (↑n1 : Int) (fun (k : Nat) => g1 ((0 : Nat) + k) (0 : Nat)) (4 : Nat) (0 : Int))
  else 0)
  else 0)
  else bif ok_hasF n1 fun (j cc : Nat) => g1 ((0 : Nat) + j) cc then (bif r_hasF_0 n1 fun (j cc : Nat) => g1 ((0 : Nat) + j) cc then ((0 : Int))
  else bif decide ((0 : Int) ≤ (0 : Int) ∧ (↑n1 : Int) = (↑n1 : Int) ∧ (0 : Int) ≤ (↑n1 : Int) ∧ (↑n1 : Int) ≤ (7 : Int)) then (put (0 : Int) (↑n1 : Int) (fun (k : Nat) => g1 ((0 : Nat) + k) (0 : Nat)) (4 : Nat) (0 : Int))
  else 0)
  else 0)
  else bif true then (bif !bif r_waits_0 x0 then bif decide ((↑n1 : Int) > (0 : Int)) then decide ((↑n1 : Int) ≤ (7 : Int)) else false else false then ((0 : Int))
  else bif ok_hasF n1 fun (j cc : Nat) => g1 ((0 : Nat) + j) cc then (bif r_hasF_0 n1 fun (j cc : Nat) => g1 ((0 : Nat) + j) cc then ((0 : Int))
  else bif decide ((0 : Int) ≤ (0 : Int) ∧ (↑n1 : Int) = (↑n1 : Int) ∧ (0 : Int) ≤ (↑n1 : Int) ∧ (↑n1 : Int) ≤ (7 : Int)) then (put (0 : Int) (↑n1 : Int) (fun (k : Nat) => g1 ((0 : Nat) + k) (0 : Nat)) (4 : Nat) (0 : Int))
  else 0)
  else 0)
  else bif ok_hasF n1 fun (j cc : Nat) => g1 ((0 : Nat) + j) cc then (bif r_hasF_0 n1 fun (j cc : Nat) => g1 ((0 : Nat) + j) cc then ((0 : Int))
  else bif decide ((0 : Int) ≤ (0 : Int) ∧ (↑n1 : Int) = (↑n1 : Int) ∧ (0 : Int) ≤ (↑n1 : Int) ∧ (↑n1 : Int) ≤ (7 : Int)) then (put (0 : Int) (↑n1 : Int) (fun (k : Nat) => g1 ((0 : Nat) + k) (0 : Nat)) (4 : Nat) (0 : Int))
  else 0)
  else 0
def r_gLine_5 (x0 : Int) (n1 : Nat) (g1 : Nat → Nat → Int) : Int :=
  bif x0 == (0 : Int) then (bif !(↑n1 : Int) == (0 : Int) then (bif !bif r_waits_0 x0 then bif decide ((↑n1 : Int) > (0 : Int)) then decide ((↑n1 : Int) ≤ (7 : Int)) else false else false then ((0 : Int))
  else bif ok_hasF n1 fun (j cc : Nat) => g1 ((0 : Nat) + j) cc then (bif r_hasF_0 n1 fun (j cc : Nat) => g1 ((0 : Nat) + j) cc then ((0 : Int))
  else bif decide ((0 : Int) ≤ (0 : Int) ∧ (↑n1 : Int) = (↑n1 : Int) ∧ (0 : Int) ≤ (↑n1 : Int) ∧ (↑n1 : Int) ≤ (7 : Int)) then (put (0 : Int) (↑n1 : Int) (fun (k : Nat) => g1 ((0 : Nat) + k) (0 : Nat)) (5 : Nat) (0 : Int))
  else 0)
  else 0)
  else bif ok_hasF n1 fun (j cc : Nat) => g1 ((0 : Nat) + j) cc then (bif r_hasF_0 n1 fun (j cc : Nat) => g1 ((0 : Nat) + j) cc then ((0 : Int))
  else bif decide ((0 : Int) ≤ (0 : Int) ∧ (↑n1 : Int) = (↑n1 : Int) ∧ (0 : Int) ≤ (↑n1 : Int) ∧ (↑n1 : Int) ≤ (7 : Int)) then (put (0 : Int) (↑n1 : Int) (fun (k : Nat) => g1 ((0 : Nat) + k) (0 : Nat)) (5 : Nat) (0 : Int))
  else 0)
  else 0)
  else bif true then (bif !bif r_waits_0 x0 then bif decide ((↑n1 : Int) > (0 : Int)) then decide ((↑n1 : Int) ≤ (7 : Int)) else false else false then ((0 : Int))
  else bif ok_hasF n1 fun (j cc : Nat) => g1 ((0 : Nat) + j) cc then (bif r_hasF_0 n1 fun (j cc : Nat) => g1 ((0 : Nat) + j) cc then ((0 : Int))
  else bif decide ((0 : Int) ≤ (0 : Int) ∧ (↑n1 : Int) = (↑n1 : Int) ∧ (0 : Int) ≤ (↑n1 : Int) ∧ (↑n1 : Int) ≤ (7 : Int)) then (put (0 : Int) (↑n1 : Int) (fun (k : Nat) => g1 ((0 : Nat) + k) (0 : Nat)) (5 : Nat) (0 : Int))
  else 0)
  else 0)
  else bif ok_hasF n1 fun (j cc : Nat) => g1 ((0 : Nat) + j) cc then (bif r_hasF_0 n1 fun (j cc : Nat) => g1 ((0 : Nat) + j) cc then ((0 : Int))
  else bif decide ((0 : Int) ≤ (0 : Int) ∧ (↑n1 : Int) = (↑n1 : Int) ∧ (0 : Int) ≤ (↑n1 : Int) ∧ (↑n1 : Int) ≤ (7 : Int)) then (put (0 : Int) (↑n1 : Int) (fun (k : Nat) => g1 ((0 : Nat) + k) (0 : Nat)) (5 : Nat) (0 : Int))
  else 0)
  else 0
def r_gLine_6 (x0 : Int) (n1 : Nat) (g1 : Nat → Nat → Int) : Int :=
  bif x0 == (0 : Int) then (bif !(↑n1 : Int) == (0 : Int) then (bif !bif r_waits_0 x0 then bif decide ((↑n1 : Int) > (0 : Int)) then decide ((↑n1 : Int) ≤ (7 : Int)) else false else false then ((0 : Int))
  else bif ok_hasF n1 fun (j cc : Nat) => g1 ((0 : Nat) + j) cc then (bif r_hasF_0 n1 fun (j cc : Nat) => g1 ((0 : Nat) + j) cc then ((0 : Int))
  else bif decide ((0 : Int) ≤ (0 : Int) ∧ (↑n1 : Int) = (↑n1 : Int) ∧ (0 : Int) ≤ (↑n1 : Int) ∧ (↑n1 : Int) ≤ (7 : Int)) then (put (0 : Int) (↑n1 : Int) (fun (k : Nat) => g1 ((0 : Nat) + k) (0 : Nat)) (6 : Nat) (0 : Int))
  else 0)
  else 0)
  else bif ok_hasF n1 fun (j cc : Nat) => g1 ((0 : Nat) + j) cc then (bif r_hasF_0 n1 fun (j cc : Nat) => g1 ((0 : Nat) + j) cc then ((0 : Int))
  else bif decide ((0 : Int) ≤ (0 : Int) ∧ (↑n1 : Int) = (↑n1 : Int) ∧ (0 : Int) ≤ (↑n1 : Int) ∧ (↑n1 : Int) ≤ (7 : Int)) then (put (0 : Int) (↑n1 : Int) (fun (k : Nat) => g1 ((0 : Nat) + k) (0 : Nat)) (6 : Nat) (0 : Int))
  else 0)
  else 0)
  else bif true then (bif !bif r_waits_0 x0 then bif decide ((↑n1 : Int) > (0 : Int)) then decide ((↑n1 : Int) ≤ (7 : Int)) else false else false then ((0 : Int))
  else bif ok_hasF n1 fun (j cc : Nat) => g1 ((0 : Nat) + j) cc then (bif r_hasF_0 n1 fun (j cc : Nat) => g1 ((0 : Nat) + j) cc then ((0 : Int))
  else bif decide ((0 : Int) ≤ (0 : Int) ∧ (↑n1 : Int) = (↑n1 : Int) ∧ (0 : Int) ≤ (↑n1 : Int) ∧ (↑n1 : Int) ≤ (7 : Int)) then (put (0 : Int) (↑n1 : Int) (fun (k : Nat) => g1 ((0 : Nat) + k) (0 : Nat)) (6 : Nat) (0 : Int))
  else 0)
  else 0)
  else bif ok_hasF n1 fun (j cc : Nat) => g1 ((0 : Nat) + j) cc then (bif r_hasF_0 n1 fun (j cc : Nat) => g1 ((0 : Nat) + j) cc then ((0 : Int))
  else bif decide ((0 : Int) ≤ (0 : Int) ∧ (↑n1 : Int) = (↑n1 : Int) ∧ (0 : Int) ≤ (↑n1 : Int) ∧ (↑n1 : Int) ≤ (7 : Int)) then (put (0 : Int) (↑n1 : Int) (fun (k : Nat) => g1 ((0 : Nat) + k) (0 : Nat)) (6 : Nat) (0 : Int))
  else 0)
  else 0
def r_gLine_7 (x0 : Int) (n1 : Nat) (g1 : Nat → Nat → Int) : Int :=
  bif x0 == (0 : Int) then (bif !(↑n1 : Int) == (0 : Int) then (bif !bif r_waits_0 x0 then bif decide ((↑n1 : Int) > (0 : Int)) then decide ((↑n1 : Int) ≤ (7 : Int)) else false else false then ((0 : Int))
  else bif ok_hasF n1 fun (j cc : Nat) => g1 ((0 : Nat) + j) cc then (bif r_hasF_0 n1 fun (j cc : Nat) => g1 ((0 : Nat) + j) cc then ((0 : Int))
  else bif decide ((0 : Int) ≤ (0 : Int) ∧ (↑n1 : Int) = (↑n1 : Int) ∧ (0 : Int) ≤ (↑n1 : Int) ∧ (↑n1 : Int) ≤ (7 : Int)) then (put (0 : Int) (↑n1 : Int) (fun (k : Nat) => g1 ((0 : Nat) + k) (0 : Nat)) (7 : Nat) (0 : Int))
  else 0)
  else 0)
  else bif ok_hasF n1 fun (j cc : Nat) => g1 ((0 : Nat) + j) cc then (bif r_hasF_0 n1 fun (j cc : Nat) => g1 ((0 : Nat) + j) cc then ((0 : Int))
  else bif decide ((0 : Int) ≤ (0 : Int) ∧ (↑n1 : Int) = (↑n1 : Int) ∧ (0 : Int) ≤ (↑n1 : Int) ∧ (↑n1 : Int) ≤ (7 : Int)) then (put (0 : Int) (↑n1 : Int) (fun (k : Nat) => g1 ((0 : Nat) + k) (0 : Nat)) (7 : Nat) (0 : Int))
  else 0)
  else 0)
  else bif true then (bif !bif r_waits_0 x0 then bif decide ((↑n1 : Int) > (0 : Int)) then decide ((↑n1 : Int) ≤ (7 : Int)) else false else false then ((0 : Int))
  else bif ok_hasF n1 fun (j cc : Nat) => g1 ((0 : Nat) + j) cc then (bif r_hasF_0 n1 fun (j cc : Nat) => g1 ((0 : Nat) + j) cc then ((0 : Int))
  else bif decide ((0 : Int) ≤ (0 : Int) ∧ (↑n1 : Int) = (↑n1 : Int) ∧ (0 : Int) ≤ (↑n1 : Int) ∧ (↑n1 : Int) ≤ (7 : Int)) then (put (0 : Int) (↑n1 : Int) (fun (k : Nat) => g1 ((0 : Nat) + k) (0 : Nat)) (7 : Nat) (0 : Int))
  else 0)
  else 0)
  else bif ok_hasF n1 fun (j cc : Nat) => g1 ((0 : Nat) + j) cc then (bif r_hasF_0 n1 fun (j cc : Nat) => g1 ((0 : Nat) + j) cc then ((0 : Int))
  else bif decide ((0 : Int) ≤ (0 : Int) ∧ (↑n1 : Int) = (↑n1 : Int) ∧ (0 : Int) ≤ (↑n1 : Int) ∧ (↑n1 : Int) ≤ (7 : Int)) then (put (0 : Int) (↑n1 : Int) (fun (k : Nat) => g1 ((0 : Nat) + k) (0 : Nat)) (7 : Nat) (0 : Int))
  else 0)
  else 0
def r_gLine_8 (x0 : Int) (n1 : Nat) (g1 : Nat → Nat → Int) : Int :=
  bif x0 == (0 : Int) then (bif !(↑n1 : Int) == (0 : Int) then (bif !bif r_waits_0 x0 then bif decide ((↑n1 : Int) > (0 : Int)) then decide ((↑n1 : Int) ≤ (7 : Int)) else false else false then ((1 : Int))
  else bif ok_hasF n1 fun (j cc : Nat) => g1 ((0 : Nat) + j) cc then (bif r_hasF_0 n1 fun (j cc : Nat) => g1 ((0 : Nat) + j) cc then ((1 : Int))
  else bif decide ((0 : Int) ≤ (0 : Int) ∧ (↑n1 : Int) = (↑n1 : Int) ∧ (0 : Int) ≤ (↑n1 : Int) ∧ (↑n1 : Int) ≤ (7 : Int)) then ((0 : Int))
  else 0)
  else 0)
  else bif ok_hasF n1 fun (j cc : Nat) => g1 ((0 : Nat) + j) cc then (bif r_hasF_0 n1 fun (j cc : Nat) => g1 ((0 : Nat) + j) cc then ((1 : Int))
  else bif decide ((0 : Int) ≤ (0 : Int) ∧ (↑n1 : Int) = (↑n1 : Int) ∧ (0 : Int) ≤ (↑n1 : Int) ∧ (↑n1 : Int) ≤ (7 : Int)) then ((0 : Int))
  else 0)
  else 0)
  else bif true then (bif !bif r_waits_0 x0 then bif decide ((↑n1 : Int) > (0 : Int)) then decide ((↑n1 : Int) ≤ (7 : Int)) else false else false then ((1 : Int))
  else bif ok_hasF n1 fun (j cc : Nat) => g1 ((0 : Nat) + j) cc then (bif r_hasF_0 n1 fun (j cc : Nat) => g1 ((0 : Nat) + j) cc then ((1 : Int))
  else bif decide ((0 : Int) ≤ (0 : Int) ∧ (↑n1 : Int) = (↑n1 : Int) ∧ (0 : Int) ≤ (↑n1 : Int) ∧ (↑n1 : Int) ≤ (7 : Int)) then ((0 : Int))
  else 0)
  else 0)
  else bif ok_hasF n1 fun (j cc : Nat) => g1 ((0 : Nat) + j) cc then (bif r_hasF_0 n1 fun (j cc : Nat) => g1 ((0 : Nat) + j) cc then ((1 : Int))
  else bif decide ((0 : Int) ≤ (0 : Int) ∧ (↑n1 : Int) = (↑n1 : Int) ∧ (0 : Int) ≤ (↑n1 : Int) ∧ (↑n1 : Int) ≤ (7 : Int)) then ((0 : Int))
  else 0)
  else 0
def ok_gLine (x0 : Int) (n1 : Nat) (g1 : Nat → Nat → Int) : Bool :=
  bif x0 == (0 : Int) then (bif !(↑n1 : Int) == (0 : Int) then (bif !bif r_waits_0 x0 then bif decide ((↑n1 : Int) > (0 : Int)) then decide ((↑n1 : Int) ≤ (7 : Int)) else false else false then (true)
  else bif ok_hasF n1 fun (j cc : Nat) => g1 ((0 : Nat) + j) cc then (bif r_hasF_0 n1 fun (j cc : Nat) => g1 ((0 : Nat) + j) cc then (true)
  else bif decide ((0 : Int) ≤ (0 : Int) ∧ (↑n1 : Int) = (↑n1 : Int) ∧ (0 : Int) ≤ (↑n1 : Int) ∧ (↑n1 : Int) ≤ (7 : Int)) then (true)
  else false)
  else false)
  else bif ok_hasF n1 fun (j cc : Nat) => g1 ((0 : Nat) + j) cc then (bif r_hasF_0 n1 fun (j cc : Nat) => g1 ((0 : Nat) + j) cc then (true)
  else bif decide ((0 : Int) ≤ (0 : Int) ∧ (↑n1 : Int) = (↑n1 : Int) ∧ (0 : Int) ≤ (↑n1 : Int) ∧ (↑n1 : Int) ≤ (7 : Int)) then (true)
  else false)
  else false)
  else bif true then (bif !bif r_waits_0 x0 then bif decide ((↑n1 : Int) > (0 : Int)) then decide ((↑n1 : Int) ≤ (7 : Int)) else false else false then (true)
  else bif ok_hasF n1 fun (j cc : Nat) => g1 ((0 : Nat) + j) cc then (bif r_hasF_0 n1 fun (j cc : Nat) => g1 ((0 : Nat) + j) cc then (true)
  else bif decide ((0 : Int) ≤ (0 : Int) ∧ (↑n1 : Int) = (↑n1 : Int) ∧ (0 : Int) ≤ (↑n1 : Int) ∧ (↑n1 : Int) ≤ (7 : Int)) then (true)
  else false)
  else false)
  else bif ok_hasF n1 fun (j cc : Nat) => g1 ((0 : Nat) + j) cc then (bif r_hasF_0 n1 fun (j cc : Nat) => g1 ((0 : Nat) + j) cc then (true)
  else bif decide ((0 : Int) ≤ (0 : Int) ∧ (↑n1 : Int) = (↑n1 : Int) ∧ (0 : Int) ≤ (↑n1 : Int) ∧ (↑n1 : Int) ≤ (7 : Int)) then (true)
  else false)
  else false
def F_gLine : List At → Tr (List At) := fun l => .br 0 (ok_gLine (aI l 0) (aRn l 1) (aRg l 1)) (.ok [.i (r_gLine_0 (aI l 0) (aRn l 1) (aRg l 1)), .i (r_gLine_1 (aI l 0) (aRn l 1) (aRg l 1)), .i (r_gLine_2 (aI l 0) (aRn l 1) (aRg l 1)), .i (r_gLine_3 (aI l 0) (aRn l 1) (aRg l 1)), .i (r_gLine_4 (aI l 0) (aRn l 1) (aRg l 1)), .i (r_gLine_5 (aI l 0) (aRn l 1) (aRg l 1)), .i (r_gLine_6 (aI l 0) (aRn l 1) (aRg l 1)), .i (r_gLine_7 (aI l 0) (aRn l 1) (aRg l 1)), .i (r_gLine_8 (aI l 0) (aRn l 1) (aRg l 1))]) .no
theorem s_gLine : SpecF Try.prog 8 (.read (locR ish_gLine osh_gLine F_gLine)) :=
  spec_read (sy := y_gLine) (fuel := 100) (Lp := Lp_gLine_7) o_hasF mixed ⟨Try.func8, by kernel_rfl, by kernel_rfl⟩ ish_gLine osh_gLine (by kernel_rfl) lk_gLine_7 (hT_merged [.i, .i, .i, .i, .i, .i, .i, .i, .i] e_gLine (fun l => by kernel_rfl) (fun l => by kernel_rfl))
def Γ_gLine : Specs := upd Γ_hasF 8 (.read (locR ish_gLine osh_gLine F_gLine))
theorem o_gLine : SpecOK Try.prog Γ_gLine := SpecOK.upd o_hasF s_gLine

/-! ### rLine -/

def ish_rLine : FSh := ⟨[.v false [.k (.n .i64)], .v false [.vw 0 1]], [.rows [.n .i64] false]⟩
def osh_rLine : FSh := ⟨[.tup [(true, [.k (.n .u64), .k (.n .u64), .k (.n .u64), .k (.n .u64), .k (.n .u64), .k (.n .u64), .k (.n .u64), .k (.n .u64)]), (false, [.k (.n .i64)])]], [.no]⟩
def rLine_c3 (x0 : Int) (n1 : Nat) : Bool := bif x0 == (3 : Int) then bif decide ((↑n1 : Int) ≥ (1 : Int)) then decide ((↑n1 : Int) ≤ (7 : Int)) else false else bif x0 == (4 : Int) then bif decide ((↑n1 : Int) ≥ (1 : Int)) then decide ((↑n1 : Int) ≤ (7 : Int)) else false else false
def T_rLine (x0 : Int) (n1 : Nat) (g1 : Nat → Nat → Int) : Tr (List At) :=
 .br 36 (!bif x0 == (0 : Int) then bif (↑n1 : Int) == (0 : Int) then true else (rLine_c3 x0 n1) else (rLine_c3 x0 n1))
 (.ok [(.i ((0 : Int))), (.i ((0 : Int))), (.i ((0 : Int))), (.i ((0 : Int))), (.i ((0 : Int))), (.i ((0 : Int))), (.i ((0 : Int))), (.i ((0 : Int))), (.i ((1 : Int)))])
 (.br 0 (decide ((0 : Int) ≤ (0 : Int) ∧ (0 : Int) ≤ (↑n1 : Int) ∧ n1 ≤ (7 : Nat)))
 (.br 0 (decide (findI (fun (k : Nat) => decide (g1 ((0 : Nat) + k) (0 : Nat) < (0 : Int)) || decide (g1 ((0 : Nat) + k) (0 : Nat) ≥ (49 : Int))) (Int.toNat ((↑n1 : Int) - (0 : Int))) (0 : Nat) < n1))
 (.ok [(.i ((0 : Int))), (.i ((0 : Int))), (.i ((0 : Int))), (.i ((0 : Int))), (.i ((0 : Int))), (.i ((0 : Int))), (.i ((0 : Int))), (.i ((0 : Int))), (.i ((1 : Int)))])
 (.ok [(.i (put (0 : Int) (↑n1 : Int) (fun (k : Nat) => g1 ((0 : Nat) + k) (0 : Nat)) (0 : Nat) (bits BinOp.or IntKind.u64 (IntKind.wrap IntKind.u64 x0) (IntKind.wrap IntKind.u64 (IntKind.wrap IntKind.u64 (↑n1 : Int) * (16 : Int)))))), (.i (put (0 : Int) (↑n1 : Int) (fun (k : Nat) => g1 ((0 : Nat) + k) (0 : Nat)) (1 : Nat) (0 : Int))), (.i (put (0 : Int) (↑n1 : Int) (fun (k : Nat) => g1 ((0 : Nat) + k) (0 : Nat)) (2 : Nat) (0 : Int))), (.i (put (0 : Int) (↑n1 : Int) (fun (k : Nat) => g1 ((0 : Nat) + k) (0 : Nat)) (3 : Nat) (0 : Int))), (.i (put (0 : Int) (↑n1 : Int) (fun (k : Nat) => g1 ((0 : Nat) + k) (0 : Nat)) (4 : Nat) (0 : Int))), (.i (put (0 : Int) (↑n1 : Int) (fun (k : Nat) => g1 ((0 : Nat) + k) (0 : Nat)) (5 : Nat) (0 : Int))), (.i (put (0 : Int) (↑n1 : Int) (fun (k : Nat) => g1 ((0 : Nat) + k) (0 : Nat)) (6 : Nat) (0 : Int))), (.i (put (0 : Int) (↑n1 : Int) (fun (k : Nat) => g1 ((0 : Nat) + k) (0 : Nat)) (7 : Nat) (0 : Int))), (.i ((0 : Int)))]))
 (.no))
def y_rLine : Nat → Option Nat := (syJ [1000002] (syOf3 [12, 17, 20, 29, 36, 24] [] []))
def TL_rLine (l : List At) : Tr (List At) := T_rLine (aI l 0) (aRn l 1) (aRg l 1)
theorem e_rLine (l : List At) : (call Try.prog Γ_gLine y_rLine Lp_rLine_7 100 Try.f9 (mkV ish_rLine l) (mkH ish_rLine l)).bind (leafO 1 osh_rLine) = TL_rLine l := by kernel_rfl
def r_rLine_0 (x0 : Int) (n1 : Nat) (g1 : Nat → Nat → Int) : Int :=
  bif !bif x0 == (0 : Int) then bif (↑n1 : Int) == (0 : Int) then true else (rLine_c3 x0 n1) else (rLine_c3 x0 n1) then ((0 : Int))
  else bif decide ((0 : Int) ≤ (0 : Int) ∧ (0 : Int) ≤ (↑n1 : Int) ∧ n1 ≤ (7 : Nat)) then (bif decide (findI (fun (k : Nat) => decide (g1 ((0 : Nat) + k) (0 : Nat) < (0 : Int)) || decide (g1 ((0 : Nat) + k) (0 : Nat) ≥ (49 : Int))) (Int.toNat ((↑n1 : Int) - (0 : Int))) (0 : Nat) < n1) then ((0 : Int))
  else put (0 : Int) (↑n1 : Int) (fun (k : Nat) => g1 ((0 : Nat) + k) (0 : Nat)) (0 : Nat) (bits BinOp.or IntKind.u64 (IntKind.wrap IntKind.u64 x0) (IntKind.wrap IntKind.u64 (IntKind.wrap IntKind.u64 (↑n1 : Int) * (16 : Int)))))
  else 0
def r_rLine_1 (x0 : Int) (n1 : Nat) (g1 : Nat → Nat → Int) : Int :=
  bif !bif x0 == (0 : Int) then bif (↑n1 : Int) == (0 : Int) then true else (rLine_c3 x0 n1) else (rLine_c3 x0 n1) then ((0 : Int))
  else bif decide ((0 : Int) ≤ (0 : Int) ∧ (0 : Int) ≤ (↑n1 : Int) ∧ n1 ≤ (7 : Nat)) then (bif decide (findI (fun (k : Nat) => decide (g1 ((0 : Nat) + k) (0 : Nat) < (0 : Int)) || decide (g1 ((0 : Nat) + k) (0 : Nat) ≥ (49 : Int))) (Int.toNat ((↑n1 : Int) - (0 : Int))) (0 : Nat) < n1) then ((0 : Int))
  else put (0 : Int) (↑n1 : Int) (fun (k : Nat) => g1 ((0 : Nat) + k) (0 : Nat)) (1 : Nat) (0 : Int))
  else 0
def r_rLine_2 (x0 : Int) (n1 : Nat) (g1 : Nat → Nat → Int) : Int :=
  bif !bif x0 == (0 : Int) then bif (↑n1 : Int) == (0 : Int) then true else (rLine_c3 x0 n1) else (rLine_c3 x0 n1) then ((0 : Int))
  else bif decide ((0 : Int) ≤ (0 : Int) ∧ (0 : Int) ≤ (↑n1 : Int) ∧ n1 ≤ (7 : Nat)) then (bif decide (findI (fun (k : Nat) => decide (g1 ((0 : Nat) + k) (0 : Nat) < (0 : Int)) || decide (g1 ((0 : Nat) + k) (0 : Nat) ≥ (49 : Int))) (Int.toNat ((↑n1 : Int) - (0 : Int))) (0 : Nat) < n1) then ((0 : Int))
  else put (0 : Int) (↑n1 : Int) (fun (k : Nat) => g1 ((0 : Nat) + k) (0 : Nat)) (2 : Nat) (0 : Int))
  else 0
def r_rLine_3 (x0 : Int) (n1 : Nat) (g1 : Nat → Nat → Int) : Int :=
  bif !bif x0 == (0 : Int) then bif (↑n1 : Int) == (0 : Int) then true else (rLine_c3 x0 n1) else (rLine_c3 x0 n1) then ((0 : Int))
  else bif decide ((0 : Int) ≤ (0 : Int) ∧ (0 : Int) ≤ (↑n1 : Int) ∧ n1 ≤ (7 : Nat)) then (bif decide (findI (fun (k : Nat) => decide (g1 ((0 : Nat) + k) (0 : Nat) < (0 : Int)) || decide (g1 ((0 : Nat) + k) (0 : Nat) ≥ (49 : Int))) (Int.toNat ((↑n1 : Int) - (0 : Int))) (0 : Nat) < n1) then ((0 : Int))
  else put (0 : Int) (↑n1 : Int) (fun (k : Nat) => g1 ((0 : Nat) + k) (0 : Nat)) (3 : Nat) (0 : Int))
  else 0
def r_rLine_4 (x0 : Int) (n1 : Nat) (g1 : Nat → Nat → Int) : Int :=
  bif !bif x0 == (0 : Int) then bif (↑n1 : Int) == (0 : Int) then true else (rLine_c3 x0 n1) else (rLine_c3 x0 n1) then ((0 : Int))
  else bif decide ((0 : Int) ≤ (0 : Int) ∧ (0 : Int) ≤ (↑n1 : Int) ∧ n1 ≤ (7 : Nat)) then (bif decide (findI (fun (k : Nat) => decide (g1 ((0 : Nat) + k) (0 : Nat) < (0 : Int)) || decide (g1 ((0 : Nat) + k) (0 : Nat) ≥ (49 : Int))) (Int.toNat ((↑n1 : Int) - (0 : Int))) (0 : Nat) < n1) then ((0 : Int))
  else put (0 : Int) (↑n1 : Int) (fun (k : Nat) => g1 ((0 : Nat) + k) (0 : Nat)) (4 : Nat) (0 : Int))
  else 0
def r_rLine_5 (x0 : Int) (n1 : Nat) (g1 : Nat → Nat → Int) : Int :=
  bif !bif x0 == (0 : Int) then bif (↑n1 : Int) == (0 : Int) then true else (rLine_c3 x0 n1) else (rLine_c3 x0 n1) then ((0 : Int))
  else bif decide ((0 : Int) ≤ (0 : Int) ∧ (0 : Int) ≤ (↑n1 : Int) ∧ n1 ≤ (7 : Nat)) then (bif decide (findI (fun (k : Nat) => decide (g1 ((0 : Nat) + k) (0 : Nat) < (0 : Int)) || decide (g1 ((0 : Nat) + k) (0 : Nat) ≥ (49 : Int))) (Int.toNat ((↑n1 : Int) - (0 : Int))) (0 : Nat) < n1) then ((0 : Int))
  else put (0 : Int) (↑n1 : Int) (fun (k : Nat) => g1 ((0 : Nat) + k) (0 : Nat)) (5 : Nat) (0 : Int))
  else 0
def r_rLine_6 (x0 : Int) (n1 : Nat) (g1 : Nat → Nat → Int) : Int :=
  bif !bif x0 == (0 : Int) then bif (↑n1 : Int) == (0 : Int) then true else (rLine_c3 x0 n1) else (rLine_c3 x0 n1) then ((0 : Int))
  else bif decide ((0 : Int) ≤ (0 : Int) ∧ (0 : Int) ≤ (↑n1 : Int) ∧ n1 ≤ (7 : Nat)) then (bif decide (findI (fun (k : Nat) => decide (g1 ((0 : Nat) + k) (0 : Nat) < (0 : Int)) || decide (g1 ((0 : Nat) + k) (0 : Nat) ≥ (49 : Int))) (Int.toNat ((↑n1 : Int) - (0 : Int))) (0 : Nat) < n1) then ((0 : Int))
  else put (0 : Int) (↑n1 : Int) (fun (k : Nat) => g1 ((0 : Nat) + k) (0 : Nat)) (6 : Nat) (0 : Int))
  else 0
def r_rLine_7 (x0 : Int) (n1 : Nat) (g1 : Nat → Nat → Int) : Int :=
  bif !bif x0 == (0 : Int) then bif (↑n1 : Int) == (0 : Int) then true else (rLine_c3 x0 n1) else (rLine_c3 x0 n1) then ((0 : Int))
  else bif decide ((0 : Int) ≤ (0 : Int) ∧ (0 : Int) ≤ (↑n1 : Int) ∧ n1 ≤ (7 : Nat)) then (bif decide (findI (fun (k : Nat) => decide (g1 ((0 : Nat) + k) (0 : Nat) < (0 : Int)) || decide (g1 ((0 : Nat) + k) (0 : Nat) ≥ (49 : Int))) (Int.toNat ((↑n1 : Int) - (0 : Int))) (0 : Nat) < n1) then ((0 : Int))
  else put (0 : Int) (↑n1 : Int) (fun (k : Nat) => g1 ((0 : Nat) + k) (0 : Nat)) (7 : Nat) (0 : Int))
  else 0
def r_rLine_8 (x0 : Int) (n1 : Nat) (g1 : Nat → Nat → Int) : Int :=
  bif !bif x0 == (0 : Int) then bif (↑n1 : Int) == (0 : Int) then true else (rLine_c3 x0 n1) else (rLine_c3 x0 n1) then ((1 : Int))
  else bif decide ((0 : Int) ≤ (0 : Int) ∧ (0 : Int) ≤ (↑n1 : Int) ∧ n1 ≤ (7 : Nat)) then (bif decide (findI (fun (k : Nat) => decide (g1 ((0 : Nat) + k) (0 : Nat) < (0 : Int)) || decide (g1 ((0 : Nat) + k) (0 : Nat) ≥ (49 : Int))) (Int.toNat ((↑n1 : Int) - (0 : Int))) (0 : Nat) < n1) then ((1 : Int))
  else (0 : Int))
  else 0
def ok_rLine (x0 : Int) (n1 : Nat) (g1 : Nat → Nat → Int) : Bool :=
  bif !bif x0 == (0 : Int) then bif (↑n1 : Int) == (0 : Int) then true else (rLine_c3 x0 n1) else (rLine_c3 x0 n1) then (true)
  else bif decide ((0 : Int) ≤ (0 : Int) ∧ (0 : Int) ≤ (↑n1 : Int) ∧ n1 ≤ (7 : Nat)) then (bif decide (findI (fun (k : Nat) => decide (g1 ((0 : Nat) + k) (0 : Nat) < (0 : Int)) || decide (g1 ((0 : Nat) + k) (0 : Nat) ≥ (49 : Int))) (Int.toNat ((↑n1 : Int) - (0 : Int))) (0 : Nat) < n1) then (true)
  else true)
  else false
def F_rLine : List At → Tr (List At) := fun l => .br 0 (ok_rLine (aI l 0) (aRn l 1) (aRg l 1)) (.ok [.i (r_rLine_0 (aI l 0) (aRn l 1) (aRg l 1)), .i (r_rLine_1 (aI l 0) (aRn l 1) (aRg l 1)), .i (r_rLine_2 (aI l 0) (aRn l 1) (aRg l 1)), .i (r_rLine_3 (aI l 0) (aRn l 1) (aRg l 1)), .i (r_rLine_4 (aI l 0) (aRn l 1) (aRg l 1)), .i (r_rLine_5 (aI l 0) (aRn l 1) (aRg l 1)), .i (r_rLine_6 (aI l 0) (aRn l 1) (aRg l 1)), .i (r_rLine_7 (aI l 0) (aRn l 1) (aRg l 1)), .i (r_rLine_8 (aI l 0) (aRn l 1) (aRg l 1))]) .no
theorem s_rLine : SpecF Try.prog 9 (.read (locR ish_rLine osh_rLine F_rLine)) :=
  spec_read (sy := y_rLine) (fuel := 100) (Lp := Lp_rLine_7) o_gLine mixed ⟨Try.func9, by kernel_rfl, by kernel_rfl⟩ ish_rLine osh_rLine (by kernel_rfl) lk_rLine_7 (hT_merged [.i, .i, .i, .i, .i, .i, .i, .i, .i] e_rLine (fun l => by kernel_rfl) (fun l => by kernel_rfl))
def Γ_rLine : Specs := upd Γ_gLine 9 (.read (locR ish_rLine osh_rLine F_rLine))
theorem o_rLine : SpecOK Try.prog Γ_rLine := SpecOK.upd o_gLine s_rLine

end Go.Proofs.Ytepdekambalmhaa.G
end

/-
  What the functions that make a gate's line come to, in few words.
-/
section
namespace Go.Proofs.Ytepdekambalmhaa.G
open Go Go.AM Go.Proofs

def idOk (x : Int) : Bool := decide (0 ≤ x ∧ x < 49)
def waitM (m : Int) : Bool := decide (m = 3 ∨ m = 4)
/-- May so many wait in such a mode? -/
def mayBe (x0 : Int) (n : Nat) : Bool := decide (x0 = 0 ∧ n = 0 ∨ (x0 = 3 ∨ x0 = 4) ∧ 1 ≤ n ∧ n ≤ 7)
def lineOk (x0 : Int) (n : Nat) (g : Nat → Int) : Bool := mayBe x0 n && decide (∀ k, k < n → idOk (g k) = true)
def lineC (x0 : Int) (n : Nat) (g : Nat → Int) (j : Nat) : Int := if j = 0 then x0 + 16 * n else if j ≤ n then g (j - 1) else 0
def lineW (x0 : Int) (n : Nat) (g : Nat → Int) (j : Nat) : Int := bif lineOk x0 n g then lineC x0 n g j else 0
def lineE (x0 : Int) (n : Nat) (g : Nat → Int) : Int := bif lineOk x0 n g then 0 else 1

def F2_gLine (l : List At) : Tr (List At) :=
  .br 0 (decide (aRn l 1 ≤ 9223372036854775807)) (.ok [.i (lineW (aI l 0) (aRn l 1) (fun k => aRg l 1 k 0) 0), .i (lineW (aI l 0) (aRn l 1) (fun k => aRg l 1 k 0) 1), .i (lineW (aI l 0) (aRn l 1) (fun k => aRg l 1 k 0) 2), .i (lineW (aI l 0) (aRn l 1) (fun k => aRg l 1 k 0) 3), .i (lineW (aI l 0) (aRn l 1) (fun k => aRg l 1 k 0) 4), .i (lineW (aI l 0) (aRn l 1) (fun k => aRg l 1 k 0) 5), .i (lineW (aI l 0) (aRn l 1) (fun k => aRg l 1 k 0) 6), .i (lineW (aI l 0) (aRn l 1) (fun k => aRg l 1 k 0) 7), .i (lineE (aI l 0) (aRn l 1) (fun k => aRg l 1 k 0))]) .no

theorem lineR_ok {x0 : Int} {n1 : Nat} {g1 : Nat → Nat → Int} (h : lineOk x0 n1 (fun k => g1 k 0) = true) :
    ([.i (lineW x0 n1 (fun k => g1 k 0) 0), .i (lineW x0 n1 (fun k => g1 k 0) 1), .i (lineW x0 n1 (fun k => g1 k 0) 2), .i (lineW x0 n1 (fun k => g1 k 0) 3), .i (lineW x0 n1 (fun k => g1 k 0) 4), .i (lineW x0 n1 (fun k => g1 k 0) 5), .i (lineW x0 n1 (fun k => g1 k 0) 6), .i (lineW x0 n1 (fun k => g1 k 0) 7), .i (lineE x0 n1 (fun k => g1 k 0))] : List At) = [.i (lineC x0 n1 (fun k => g1 k 0) 0), .i (lineC x0 n1 (fun k => g1 k 0) 1), .i (lineC x0 n1 (fun k => g1 k 0) 2), .i (lineC x0 n1 (fun k => g1 k 0) 3), .i (lineC x0 n1 (fun k => g1 k 0) 4), .i (lineC x0 n1 (fun k => g1 k 0) 5), .i (lineC x0 n1 (fun k => g1 k 0) 6), .i (lineC x0 n1 (fun k => g1 k 0) 7), .i 0] := by
  simp only [lineW, lineE, h, cond_true]
theorem lineR_no {x0 : Int} {n1 : Nat} {g1 : Nat → Nat → Int} (h : lineOk x0 n1 (fun k => g1 k 0) = false) :
    ([.i (lineW x0 n1 (fun k => g1 k 0) 0), .i (lineW x0 n1 (fun k => g1 k 0) 1), .i (lineW x0 n1 (fun k => g1 k 0) 2), .i (lineW x0 n1 (fun k => g1 k 0) 3), .i (lineW x0 n1 (fun k => g1 k 0) 4), .i (lineW x0 n1 (fun k => g1 k 0) 5), .i (lineW x0 n1 (fun k => g1 k 0) 6), .i (lineW x0 n1 (fun k => g1 k 0) 7), .i (lineE x0 n1 (fun k => g1 k 0))] : List At) = [.i 0, .i 0, .i 0, .i 0, .i 0, .i 0, .i 0, .i 0, .i 1] := by
  simp only [lineW, lineE, h, cond_false]

theorem allIds {n : Nat} {g : Nat → Int} {p : Nat → Bool} (hp : ∀ k, p k = !idOk (g k)) : decide (findI p n 0 < n) = !decide (∀ k, k < n → idOk (g k) = true) := by
  obtain ⟨h1, h2, h3, h4⟩ := findI_spec p n 0
  by_cases h : findI p n 0 < n
  · have hb := h3 (by omega)
    rw [hp] at hb
    have : ¬ ∀ k, k < n → idOk (g k) = true := fun ha => by rw [ha _ h] at hb; cases hb
    rw [decide_eq_true h, decide_eq_false this]; rfl
  · have : ∀ k, k < n → idOk (g k) = true := fun k hk => by
      have := h4 k (Nat.zero_le _) (by omega)
      rw [hp] at this
      cases hc : idOk (g k) with
      | true => rfl
      | false => rw [hc] at this; cases this
    rw [decide_eq_false h, decide_eq_true this]; rfl

theorem notId_eq (x : Int) : r_notId_0 x = !idOk x := by
  unfold r_notId_0 r_isId_0 idOk
  congr 1
  by_cases h : x ≥ 0
  · simp [h]
  · simp [h]
theorem waits_eq (x : Int) : r_waits_0 x = waitM x := by
  unfold r_waits_0 waitM
  by_cases h : x = 3
  · simp [h]
  · by_cases h2 : x = 4 <;> simp [h, h2]

theorem hasF_eq {n : Nat} {g g' : Nat → Nat → Int} (hn : n ≤ 9223372036854775807) (hg : ∀ k, g' k 0 = g k 0) : ok_hasF n g' = true ∧ r_hasF_0 n g' = !decide (∀ k, k < n → idOk (g k 0) = true) := by
  have hc : decide ((0 : Int) ≤ (0 : Int) ∧ (↑n : Int) = (↑n : Int) ∧ (0 : Int) ≤ (↑n : Int) ∧ (↑n : Int) ≤ (9223372036854775807 : Int)) = true := decide_eq_true (by omega)
  have ho : ∀ g : Nat → Nat → Int, ok_idxF n g = true := fun g => by unfold ok_idxF; rw [hc]; simp
  have ha := allIds (n := n) (g := fun k => g k 0) (p := fun k => r_notId_0 (g' (0 + (0 + k)) 0)) (fun k => by rw [notId_eq, Nat.zero_add, Nat.zero_add, hg])
  refine ⟨by unfold ok_hasF; rw [ho]; rfl, ?_⟩
  unfold r_hasF_0 r_idxF_0
  rw [ho, hc]
  simp only [cond_true, show Int.toNat ((↑n : Int) - (0 : Int)) = n by omega, show Int.toNat (↑n : Int) = n by omega]
  rw [ha]
  cases decide (∀ k, k < n → idOk (g k 0) = true) with
  | true => rfl
  | false => simp

theorem word0_eq {x0 : Int} {n : Nat} (h : mayBe x0 n = true) : bits BinOp.or IntKind.u64 (IntKind.wrap IntKind.u64 x0) (IntKind.wrap IntKind.u64 (IntKind.wrap IntKind.u64 (↑n : Int) * (16 : Int))) = x0 + 16 * n := by
  simp only [mayBe, decide_eq_true_eq] at h
  rcases h with ⟨rfl, rfl⟩ | ⟨h1, h2, h3⟩
  · decide +kernel
  · obtain ⟨m, rfl, hm⟩ : ∃ m : Nat, n = m ∧ (m = 1 ∨ m = 2 ∨ m = 3 ∨ m = 4 ∨ m = 5 ∨ m = 6 ∨ m = 7) := ⟨n, rfl, by omega⟩
    rcases h1 with rfl | rfl <;> rcases hm with rfl | rfl | rfl | rfl | rfl | rfl | rfl <;> decide +kernel

theorem put_eq {x0 : Int} {n : Nat} {g g' : Nat → Int} (h : lineOk x0 n g = true) (hg : ∀ k, g' k = g k) (j : Nat) (hj : j ≠ 0) : put 0 n g' j 0 = lineC x0 n g j := by
  simp only [lineOk, Bool.and_eq_true, decide_eq_true_eq] at h
  unfold put lineC
  rw [if_neg hj]
  by_cases hn : j ≤ n
  · have := h.2 (j - 1) (by omega)
    simp only [idOk, decide_eq_true_eq] at this
    rw [if_pos hn, decide_eq_true (by omega), cond_true, hg, wrap_u64 (by omega) (by omega)]
  · rw [if_neg hn, decide_eq_false (by omega)]; rfl
theorem put_eq0 {x0 : Int} {n : Nat} {g g' : Nat → Int} (h : lineOk x0 n g = true) : put 0 n g' 0 (bits BinOp.or IntKind.u64 (IntKind.wrap IntKind.u64 x0) (IntKind.wrap IntKind.u64 (IntKind.wrap IntKind.u64 (↑n : Int) * (16 : Int)))) = lineC x0 n g 0 := by
  simp only [lineOk, Bool.and_eq_true] at h
  rw [word0_eq h.1]
  unfold put lineC
  rw [if_pos rfl, decide_eq_false (by omega)]; rfl

theorem puts_eq {x0 : Int} {n1 : Nat} {g1 : Nat → Nat → Int} (h : lineOk x0 n1 (fun k => g1 k 0) = true) : ([.i (put (0 : Int) (↑n1 : Int) (fun (k : Nat) => g1 ((0 : Nat) + k) (0 : Nat)) (0 : Nat) (bits BinOp.or IntKind.u64 (IntKind.wrap IntKind.u64 x0) (IntKind.wrap IntKind.u64 (IntKind.wrap IntKind.u64 (↑n1 : Int) * (16 : Int))))), .i (put (0 : Int) (↑n1 : Int) (fun (k : Nat) => g1 ((0 : Nat) + k) (0 : Nat)) (1 : Nat) (0 : Int)), .i (put (0 : Int) (↑n1 : Int) (fun (k : Nat) => g1 ((0 : Nat) + k) (0 : Nat)) (2 : Nat) (0 : Int)), .i (put (0 : Int) (↑n1 : Int) (fun (k : Nat) => g1 ((0 : Nat) + k) (0 : Nat)) (3 : Nat) (0 : Int)), .i (put (0 : Int) (↑n1 : Int) (fun (k : Nat) => g1 ((0 : Nat) + k) (0 : Nat)) (4 : Nat) (0 : Int)), .i (put (0 : Int) (↑n1 : Int) (fun (k : Nat) => g1 ((0 : Nat) + k) (0 : Nat)) (5 : Nat) (0 : Int)), .i (put (0 : Int) (↑n1 : Int) (fun (k : Nat) => g1 ((0 : Nat) + k) (0 : Nat)) (6 : Nat) (0 : Int)), .i (put (0 : Int) (↑n1 : Int) (fun (k : Nat) => g1 ((0 : Nat) + k) (0 : Nat)) (7 : Nat) (0 : Int)), .i 0] : List At) = [.i (lineW x0 n1 (fun k => g1 k 0) 0), .i (lineW x0 n1 (fun k => g1 k 0) 1), .i (lineW x0 n1 (fun k => g1 k 0) 2), .i (lineW x0 n1 (fun k => g1 k 0) 3), .i (lineW x0 n1 (fun k => g1 k 0) 4), .i (lineW x0 n1 (fun k => g1 k 0) 5), .i (lineW x0 n1 (fun k => g1 k 0) 6), .i (lineW x0 n1 (fun k => g1 k 0) 7), .i (lineE x0 n1 (fun k => g1 k 0))] := by
  have hg : ∀ k, (fun (k : Nat) => g1 ((0 : Nat) + k) (0 : Nat)) k = (fun k => g1 k 0) k := fun k => by simp only [Nat.zero_add]
  rw [lineR_ok h, put_eq0 h, put_eq h hg 1 (by decide), put_eq h hg 2 (by decide), put_eq h hg 3 (by decide), put_eq h hg 4 (by decide), put_eq h hg 5 (by decide), put_eq h hg 6 (by decide), put_eq h hg 7 (by decide)]

theorem t_gLine {x0 : Int} {n1 : Nat} {g1 : Nat → Nat → Int} (hn : n1 ≤ 9223372036854775807) : (T_gLine x0 n1 g1).sat fun r => r = [.i (lineW x0 n1 (fun k => g1 k 0) 0), .i (lineW x0 n1 (fun k => g1 k 0) 1), .i (lineW x0 n1 (fun k => g1 k 0) 2), .i (lineW x0 n1 (fun k => g1 k 0) 3), .i (lineW x0 n1 (fun k => g1 k 0) 4), .i (lineW x0 n1 (fun k => g1 k 0) 5), .i (lineW x0 n1 (fun k => g1 k 0) 6), .i (lineW x0 n1 (fun k => g1 k 0) 7), .i (lineE x0 n1 (fun k => g1 k 0))] := by
  obtain ⟨e1, e2⟩ := hasF_eq (g' := fun j cc => g1 (0 + j) cc) (g := g1) hn (fun k => by rw [Nat.zero_add])
  have bad : lineOk x0 n1 (fun k => g1 k 0) = false → ([.i 0, .i 0, .i 0, .i 0, .i 0, .i 0, .i 0, .i 0, .i 1] : List At) = _ := fun h => (lineR_no h).symm
  have hm : mayBe x0 n1 = false → lineOk x0 n1 (fun k => g1 k 0) = false := fun h => by unfold lineOk; rw [h]; rfl
  have ha : r_hasF_0 n1 (fun j cc => g1 (0 + j) cc) = true → lineOk x0 n1 (fun k => g1 k 0) = false := fun h => by
    rw [e2, Bool.not_eq_true'] at h
    unfold lineOk
    rw [h, Bool.and_false]
  have hb : mayBe x0 n1 = true → r_hasF_0 n1 (fun j cc => g1 (0 + j) cc) = false → lineOk x0 n1 (fun k => g1 k 0) = true := fun h1 h2 => by
    rw [e2, Bool.not_eq_false'] at h2
    unfold lineOk
    rw [h1, h2]; rfl
  have c36 : (!bif waitM x0 then bif decide ((↑n1 : Int) > (0 : Int)) then decide ((↑n1 : Int) ≤ (7 : Int)) else false else false) = !decide ((x0 = 3 ∨ x0 = 4) ∧ 1 ≤ n1 ∧ n1 ≤ 7) := by
    congr 1
    unfold waitM
    by_cases h1 : x0 = 3 ∨ x0 = 4
    · rw [decide_eq_true h1, cond_true]
      by_cases h2 : (n1 : Int) > 0
      · rw [decide_eq_true h2, cond_true, decide_eq_decide]; omega
      · rw [decide_eq_false h2, cond_false, decide_eq_false (by omega)]
    · rw [decide_eq_false h1, cond_false, decide_eq_false (by omega)]
  unfold T_gLine
  rw [waits_eq, c36]
  clear c36 e2
  repeat' (first | refine brT e1 ?_ | refine brD (fun h => ?_) (fun h => ?_) | refine brND (fun h => ?_) (fun h => ?_) | refine brNQ (fun h => ?_) (fun h => ?_) | refine brQ (fun h => ?_) (fun h => ?_) | refine brC (fun h => ?_) (fun h => ?_))
  all_goals first
    | exact Tr.sat_ok.2 (bad (ha (by assumption)))
    | exact Tr.sat_ok.2 (bad (hm (decide_eq_false (by omega))))
    | exact Tr.sat_ok.2 (puts_eq (hb (decide_eq_true (by omega)) (by assumption)))
    | (exfalso; omega)
    | (exfalso; simp at *; done)

theorem t_rLine {x0 : Int} {n1 : Nat} {g1 : Nat → Nat → Int} (hn : n1 ≤ 9223372036854775807) : (T_rLine x0 n1 g1).sat fun r => r = [.i (lineW x0 n1 (fun k => g1 k 0) 0), .i (lineW x0 n1 (fun k => g1 k 0) 1), .i (lineW x0 n1 (fun k => g1 k 0) 2), .i (lineW x0 n1 (fun k => g1 k 0) 3), .i (lineW x0 n1 (fun k => g1 k 0) 4), .i (lineW x0 n1 (fun k => g1 k 0) 5), .i (lineW x0 n1 (fun k => g1 k 0) 6), .i (lineW x0 n1 (fun k => g1 k 0) 7), .i (lineE x0 n1 (fun k => g1 k 0))] := by
  have bad : lineOk x0 n1 (fun k => g1 k 0) = false → ([.i 0, .i 0, .i 0, .i 0, .i 0, .i 0, .i 0, .i 0, .i 1] : List At) = _ := fun h => (lineR_no h).symm
  have hm : mayBe x0 n1 = false → lineOk x0 n1 (fun k => g1 k 0) = false := fun h => by unfold lineOk; rw [h]; rfl
  have c3 : (!bif x0 == (0 : Int) then bif (↑n1 : Int) == (0 : Int) then true else (rLine_c3 x0 n1) else (rLine_c3 x0 n1)) = !mayBe x0 n1 := by
    congr 1
    have e : rLine_c3 x0 n1 = decide ((x0 = 3 ∨ x0 = 4) ∧ 1 ≤ n1 ∧ n1 ≤ 7) := by
      unfold rLine_c3
      simp only [cond_eq_ite, beq_iff_eq, decide_eq_true_eq]
      repeat' split
      all_goals first
        | exact decide_eq_decide.2 (by omega)
        | (symm; exact decide_eq_true (by omega))
        | (symm; exact decide_eq_false (by omega))
    rw [e]
    unfold mayBe
    simp only [cond_eq_ite, beq_iff_eq]
    repeat' split
    all_goals first
      | exact decide_eq_decide.2 (by omega)
      | (symm; exact decide_eq_true (by omega))
      | (symm; exact decide_eq_false (by omega))
  have ha := allIds (n := n1) (g := fun k => g1 k 0) (p := fun (k : Nat) => decide (g1 ((0 : Nat) + k) (0 : Nat) < (0 : Int)) || decide (g1 ((0 : Nat) + k) (0 : Nat) ≥ (49 : Int))) (fun k => by
    rw [Nat.zero_add]
    unfold idOk
    by_cases h1 : g1 k 0 < 0
    · have : ¬ (0 ≤ g1 k 0 ∧ g1 k 0 < 49) := by omega
      rw [decide_eq_true h1, decide_eq_false this]; rfl
    · by_cases h2 : g1 k 0 ≥ 49
      · have : ¬ (0 ≤ g1 k 0 ∧ g1 k 0 < 49) := by omega
        rw [decide_eq_true h2, decide_eq_false this, Bool.or_true]; rfl
      · have : 0 ≤ g1 k 0 ∧ g1 k 0 < 49 := by omega
        rw [decide_eq_false h1, decide_eq_false h2, decide_eq_true this]; rfl)
  have e0 : Int.toNat ((↑n1 : Int) - (0 : Int)) = n1 := by omega
  unfold T_rLine
  rw [c3, e0, ha]
  cases h1 : mayBe x0 n1 with
  | false => exact brT rfl (Tr.sat_ok.2 (bad (hm h1)))
  | true =>
    have h7 : n1 ≤ 7 := by
      simp only [mayBe, decide_eq_true_eq] at h1
      omega
    refine brF rfl (brT (decide_eq_true (by omega)) ?_)
    cases h2 : decide (∀ k, k < n1 → idOk (g1 k 0) = true) with
    | false => exact brT rfl (Tr.sat_ok.2 (bad (by unfold lineOk; rw [h2, Bool.and_false])))
    | true => exact brF rfl (Tr.sat_ok.2 (puts_eq (by unfold lineOk; rw [h1, h2]; rfl)))

theorem h_gLine : ∀ l r, (F2_gLine l).val = some r → ∃ r', ((call Try.prog Γ_hasF y_gLine Lp_gLine_7 100 Try.f8 (mkV ish_gLine l) (mkH ish_gLine l)).bind (leafO 1 osh_gLine)).val = some r' ∧ AtsEq r' r := by
  intro l r h
  obtain ⟨hc, h⟩ := guard_val h
  have := val_ok h
  subst this
  obtain ⟨r', h1, h2⟩ := t_gLine (x0 := aI l 0) (n1 := aRn l 1) (g1 := aRg l 1) (of_decide_eq_true hc)
  exact ⟨r', by rw [e_gLine]; exact h1, by rw [h2]; exact AtsEq.refl _⟩
theorem h_rLine : ∀ l r, (F2_gLine l).val = some r → ∃ r', ((call Try.prog Γ_gLine y_rLine Lp_rLine_7 100 Try.f9 (mkV ish_rLine l) (mkH ish_rLine l)).bind (leafO 1 osh_rLine)).val = some r' ∧ AtsEq r' r := by
  intro l r h
  obtain ⟨hc, h⟩ := guard_val h
  have := val_ok h
  subst this
  obtain ⟨r', h1, h2⟩ := t_rLine (x0 := aI l 0) (n1 := aRn l 1) (g1 := aRg l 1) (of_decide_eq_true hc)
  exact ⟨r', by rw [e_rLine]; exact h1, by rw [h2]; exact AtsEq.refl _⟩

theorem s2_gLine : SpecF Try.prog 8 (.read (locR ish_gLine osh_gLine F2_gLine)) :=
  spec_read (sy := y_gLine) (fuel := 100) (Lp := Lp_gLine_7) o_hasF mixed ⟨Try.func8, by kernel_rfl, by kernel_rfl⟩ ish_gLine osh_gLine (by kernel_rfl) lk_gLine_7 h_gLine
theorem s2_rLine : SpecF Try.prog 9 (.read (locR ish_rLine osh_rLine F2_gLine)) :=
  spec_read (sy := y_rLine) (fuel := 100) (Lp := Lp_rLine_7) o_gLine mixed ⟨Try.func9, by kernel_rfl, by kernel_rfl⟩ ish_rLine osh_rLine (by kernel_rfl) lk_rLine_7 h_rLine
def Γ_S3 : Specs := upd (upd Γ_rLine 8 (.read (locR ish_gLine osh_gLine F2_gLine))) 9 (.read (locR ish_rLine osh_rLine F2_gLine))
theorem o_S3 : SpecOK Try.prog Γ_S3 := SpecOK.upd (SpecOK.upd o_rLine s2_gLine) s2_rLine
end Go.Proofs.Ytepdekambalmhaa.G
end
