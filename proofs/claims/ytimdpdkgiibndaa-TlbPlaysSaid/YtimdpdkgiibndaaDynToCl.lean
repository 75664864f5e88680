/-
  Calls of closures: all of them only read here (the first law, which nothing calls, stands for the flag).
-/
import Derived.Test.YtimdpdkgiibndaaRows
import Derived.Test.YtimdpdkgiibndaaAn9ToAnR
import Derived.Test.YtimdpdkgiibndaaAmEToAn3
import Derived.KernelRfl
section
namespace Go.Proofs.Ytimdpdkgiibndaa.G
open Go Go.AM Go.Proofs

theorem mixed : Try.prog.follows .mixedOrders = true := by kernel_rfl
def Γ_dyn : Specs := upd noSpecs 3 (.read fun _ _ => .no)
theorem s_dyn : SpecF Try.prog 3 (.read fun _ _ => .no) := by
  have h : fnOk Try.prog 3 Try.f3 := ⟨Try.func3, by kernel_rfl, by kernel_rfl⟩
  refine .inr ⟨⟨Try.f3, h⟩, fun φ H w targs args tv H' happ _ _ => ?_, fun _ _ _ _ h => by simp [Tr.val] at h⟩
  simp [Spec.app, Tr.val_bind, Tr.val] at happ
theorem o_dyn : SpecOK Try.prog Γ_dyn := SpecOK.upd noSpecs_ok s_dyn
end Go.Proofs.Ytimdpdkgiibndaa.G
end

/-
  What functions of the seat compute, printed by a program from the explorer.
-/
section
namespace Go.Proofs.Ytimdpdkgiibndaa.G
open Go Go.AM Go.Proofs
/-! ### isKey -/

def ish_isKey : FSh := ⟨[.v true [.k (.n .u64), .k (.n .u64), .k (.n .i64), .k (.n .i64), .k (.n .i64)], .v false [.p 0 0]], [.roc [.k (.n .u64), .k (.n .u64)]]⟩
def osh_isKey : FSh := ⟨[.v false [.k .b]], [.no]⟩
def T_isKey (x0 : Int) (x1 : Int) (x2 : Int) (x3 : Int) (x4 : Int) (x5 : Int) (x6 : Int) : Tr (List At) :=
 .ok [(.b (x0 == x5 && (x1 == x6 && true)))]
def y_isKey : Nat → Option Nat := (syOf3 [] [] [])
def TL_isKey (l : List At) : Tr (List At) := T_isKey (aI l 0) (aI l 1) (aI l 2) (aI l 3) (aI l 4) (aI l 5) (aI l 6)
theorem e_isKey (l : List At) : (call Try.prog Γ_dyn y_isKey noLoops 100 Try.f20 (mkV ish_isKey l) (mkH ish_isKey l)).bind (leafO 1 osh_isKey) = TL_isKey l := by kernel_rfl
def r_isKey_0 (x0 : Int) (x1 : Int) (x5 : Int) (x6 : Int) : Bool :=
  x0 == x5 && (x1 == x6 && true)
def F_isKey : List At → Tr (List At) := fun l => .ok [.b (r_isKey_0 (aI l 0) (aI l 1) (aI l 5) (aI l 6))]
theorem s_isKey : SpecF Try.prog 20 (.read (locR ish_isKey osh_isKey F_isKey)) :=
  spec_read (sy := y_isKey) (fuel := 100) (Lp := noLoops) o_dyn mixed ⟨Try.func20, by kernel_rfl, by kernel_rfl⟩ ish_isKey osh_isKey (by kernel_rfl) (noLoops_ok _) (hT_merged [.b] e_isKey (fun l => by kernel_rfl) (fun l => by kernel_rfl))
def Γ_isKey : Specs := upd Γ_dyn 20 (.read (locR ish_isKey osh_isKey F_isKey))
theorem o_isKey : SpecOK Try.prog Γ_isKey := SpecOK.upd o_dyn s_isKey

/-! ### the loop at 2 of idxF -/

def lsh_idxF_2 : FSh := ⟨[.v false [.sq 0 5], .v false [.fn 20 [(1, 0)]], .any, .any, .any, .any, .any, .v false [.k (.n .i64)], .v false [.k (.n .i64)], .any, .any, .any, .any, .any, .any, .any, .any, .any, .any], [.rows [.n .u64, .n .u64, .n .i64, .n .i64, .n .i64] false, .roc [.k (.n .u64), .k (.n .u64)]]⟩
def xsh_idxF_2_0 : FSh := ⟨[.any, .any, .any, .any, .any, .any, .any, .any, .any, .any, .any, .any, .any, .any, .any, .any, .any, .any, .any], [.no, .no]⟩
def xsh_idxF_2_1 : FSh := ⟨[.any, .any, .any, .any, .v false [.k (.n .i64)], .any, .any, .any, .any, .any, .any, .any, .any, .any, .any, .any, .any, .any, .any], [.no, .no]⟩
def xs_idxF_2 : Exs := fun e => match e with
  | .normal => some lsh_idxF_2
  | .exit n => (match Nat.beq n 0 with | true => some xsh_idxF_2_0 | false => none)
  | .ret => some xsh_idxF_2_1
def B_idxF_2 (x0 : Nat) (x1 : Nat) (x2 : Int) (x3 : Int) (n4 : Nat) (g4 : Nat → Nat → Int) (x5 : Int) (x6 : Int) : Tr (Ex × List At) :=
 .br 9 (decide (x3 < x2))
 (.br 14 (within x3 x1)
 (.br 16 (r_isKey_0 (g4 (x0 + Int.toNat x3) (0 : Nat)) (g4 (x0 + Int.toNat x3) (1 : Nat)) x5 x6)
 (.ok (.ret, [(.i (x3))]))
 (.ok (.normal, [(.n (x0)), (.n (x1)), (.i (x2)), (.i (IntKind.wrap IntKind.i64 (x3 + (1 : Int)))), (.r (n4) (g4)), (.i (x5)), (.i (x6))])))
 (.no))
 (.ok (.exit 0, []))
def y_idxF_2 : Nat → Option Nat := (syOf3 [9, 14, 16] [] [])
def BL_idxF_2 (l : List At) : Tr (Ex × List At) := B_idxF_2 (aN l 0) (aN l 1) (aI l 2) (aI l 3) (aRn l 4) (aRg l 4) (aI l 5) (aI l 6)
theorem eB_idxF_2 (l : List At) : (exec Try.prog Γ_isKey y_idxF_2 noLoops 100 (loopAt Try.f19 2) ⟨mkV lsh_idxF_2 l, mkH lsh_idxF_2 l⟩).bind (leafL 2 xs_idxF_2) = BL_idxF_2 l := by kernel_rfl
/- by hand: O_idxF_2 (x0 : Nat) (x1 : Nat) (x2 : Int) (x3 : Int) (n4 : Nat) (g4 : Nat → Nat → Int) (x5 : Int) (x6 : Int) : Tr (Ex × List At); OL_idxF_2 (l) := O_idxF_2 (aN l 0) (aN l 1) (aI l 2) (aI l 3) (aRn l 4) (aRg l 4) (aI l 5) (aI l 6); μ_idxF_2 : List At → Nat; rd_idxF_2 : ∀ l r, (OL_idxF_2 l).val = some r → RoundA BL_idxF_2 OL_idxF_2 μ_idxF_2 l r -/

end Go.Proofs.Ytimdpdkgiibndaa.G
end

/-
  What the loop that looks for the first way of a key comes to.
-/
section
namespace Go.Proofs.Ytimdpdkgiibndaa.G
open Go Go.AM Go.Proofs

/-- The first of 'm' from 'i' on, or behind them. -/
def findI (p : Nat → Bool) : Nat → Nat → Nat
  | 0, i => i
  | m + 1, i => bif p i then i else findI p m (i + 1)

theorem findI_hit {p : Nat → Bool} {m i : Nat} (hm : 0 < m) (h : p i = true) : findI p m i = i := by
  obtain ⟨k, rfl⟩ : ∃ k, m = k + 1 := ⟨m - 1, by omega⟩
  rw [findI, h]; rfl
theorem findI_step {p : Nat → Bool} {m m' i : Nat} (hm : m = m' + 1) (h : p i = false) : findI p m i = findI p m' (i + 1) := by
  subst hm
  rw [findI, h]; rfl
theorem findI_spec (p : Nat → Bool) : ∀ (m i : Nat), i ≤ findI p m i ∧ findI p m i ≤ i + m ∧ (findI p m i < i + m → p (findI p m i) = true) ∧ ∀ k, i ≤ k → k < findI p m i → p k = false
  | 0, i => ⟨Nat.le_refl _, Nat.le_refl _, fun h => by simp [findI] at h, fun k h1 h2 => by simp [findI] at h2; omega⟩
  | m + 1, i => by
    cases h : p i with
    | true =>
      rw [findI_hit (by omega) h]
      exact ⟨Nat.le_refl _, by omega, fun _ => h, fun k h1 h2 => by omega⟩
    | false =>
      rw [findI_step rfl h]
      obtain ⟨a, b, c, d⟩ := findI_spec p m (i + 1)
      refine ⟨by omega, by omega, fun hl => c (by omega), fun k h1 h2 => ?_⟩
      rcases Nat.eq_or_lt_of_le h1 with e | e
      · subst e; exact h
      · exact d k e h2

def hit (g : Nat → Nat → Int) (s p : Int) (k : Nat) : Bool := r_isKey_0 (g k 0) (g k 1) s p

def O_idxF_2 (x0 : Nat) (x1 : Nat) (x2 : Int) (x3 : Int) (_n4 : Nat) (g4 : Nat → Nat → Int) (x5 x6 : Int) : Tr (Ex × List At) :=
  .br 0 (decide (0 ≤ x3 ∧ x2 = x1 ∧ x3 ≤ x2 ∧ x2 ≤ 9223372036854775807))
    (.br 0 (decide (findI (fun k => hit g4 x5 x6 (x0 + k)) (x2 - x3).toNat x3.toNat < x2.toNat))
      (.ok (.ret, [.i (findI (fun k => hit g4 x5 x6 (x0 + k)) (x2 - x3).toNat x3.toNat : Nat)])) (.ok (.exit 0, []))) .no
def OL_idxF_2 (l : List At) : Tr (Ex × List At) := O_idxF_2 (aN l 0) (aN l 1) (aI l 2) (aI l 3) (aRn l 4) (aRg l 4) (aI l 5) (aI l 6)
def μ_idxF_2 (l : List At) : Nat := (aI l 2 - aI l 3).toNat

theorem rd_idxF_2 : ∀ l r, (OL_idxF_2 l).val = some r → RoundS BL_idxF_2 OL_idxF_2 μ_idxF_2 l r := by
  intro l r h
  obtain ⟨hc, h⟩ := guard_val h
  simp only [decide_eq_true_eq] at hc
  obtain ⟨c0, c1, c2, c3⟩ := hc
  unfold RoundS BL_idxF_2 B_idxF_2
  refine brC (fun h1 => ?_) (fun h1 => ?_)
  · simp only [decide_eq_true_eq] at h1
    have hw : IntKind.i64.wrap (aI l 3 + 1) = aI l 3 + 1 := wrap_i64 (by omega) (by omega)
    refine brT (by simp only [within, Bool.and_eq_true, decide_eq_true_eq]; omega) (brC (fun h3 => ?_) (fun h3 => ?_))
    · have hf := findI_hit (p := fun k => hit (aRg l 4) (aI l 5) (aI l 6) (aN l 0 + k)) (m := (aI l 2 - aI l 3).toNat) (i := (aI l 3).toNat) (by omega) h3
      rw [hf, br_t (by simp only [decide_eq_true_eq]; omega)] at h
      have := val_ok h
      subst this
      exact out_ (by simp) rfl (atsEq_cons (atEq_i (by simp; omega)) atsEq_nil)
    · have hf := findI_step (p := fun k => hit (aRg l 4) (aI l 5) (aI l 6) (aN l 0 + k)) (m := (aI l 2 - aI l 3).toNat) (m' := (aI l 2 - (aI l 3 + 1)).toNat) (i := (aI l 3).toNat) (by omega) h3
      refine on_ [.n (aN l 0), .n (aN l 1), .i (aI l 2), .i (aI l 3 + 1), .r (aRn l 4) (aRg l 4), .i (aI l 5), .i (aI l 6)] r (by rw [hw]; exact AtsEq.refl _) ?_ ?_ rfl (AtsEq.refl _)
      · show (aI l 2 - (aI l 3 + 1)).toNat < (aI l 2 - aI l 3).toNat
        omega
      · refine (br_t (g := 0) ?_).trans ?_
        · show decide (0 ≤ aI l 3 + 1 ∧ aI l 2 = aN l 1 ∧ aI l 3 + 1 ≤ aI l 2 ∧ aI l 2 ≤ 9223372036854775807) = true
          simp only [decide_eq_true_eq]; omega
        · rw [hf, show (aI l 3).toNat + 1 = (aI l 3 + 1).toNat by omega] at h
          exact h
  · simp only [decide_eq_false_iff_not] at h1
    have e : (aI l 2 - aI l 3).toNat = 0 := by omega
    rw [e, br_f (decide_eq_false (by simp only [findI]; omega))] at h
    have := val_ok h
    subst this
    exact out_ (by simp) rfl atsEq_nil
end Go.Proofs.Ytimdpdkgiibndaa.G
end

/-
  What functions of the seat compute, printed by a program from the explorer.
-/
section
namespace Go.Proofs.Ytimdpdkgiibndaa.G
open Go Go.AM Go.Proofs
theorem f_idxF_2 : LoopF Try.prog 2 (loopAt Try.f19 2) (loopFn 2 lsh_idxF_2 xs_idxF_2 OL_idxF_2) :=
  loop_sat (sy := y_idxF_2) (fuel := 100) (Lp := noLoops) o_isKey mixed (loopsOK_at (noLoops_ok _) 2) rfl eB_idxF_2 rd_idxF_2
def Lp_idxF_2 : Loops := Loops.set noLoops 2 (loopFn 2 lsh_idxF_2 xs_idxF_2 OL_idxF_2)
theorem lk_idxF_2 : LoopsFn Try.prog 2 Lp_idxF_2 Try.f19 := loopsFn_set (noLoops_ok _) (by kernel_rfl) f_idxF_2

/-! ### idxF -/

def ish_idxF : FSh := ⟨[.v false [.vw 0 5], .v false [.fn 20 [(1, 0)]]], [.rows [.n .u64, .n .u64, .n .i64, .n .i64, .n .i64] false, .roc [.k (.n .u64), .k (.n .u64)]]⟩
def osh_idxF : FSh := ⟨[.v false [.k (.n .i64)]], [.no, .no]⟩
def T_idxF (n0 : Nat) (g0 : Nat → Nat → Int) (x1 : Int) (x2 : Int) : Tr (List At) :=
 .br 0 (decide ((0 : Int) ≤ (0 : Int) ∧ (↑n0 : Int) = (↑n0 : Int) ∧ (0 : Int) ≤ (↑n0 : Int) ∧ (↑n0 : Int) ≤ (9223372036854775807 : Int)))
 (.br 0 (decide (findI (fun (k : Nat) => hit g0 x1 x2 ((0 : Nat) + k)) (Int.toNat ((↑n0 : Int) - (0 : Int))) (0 : Nat) < Int.toNat (↑n0 : Int)))
 (.ok [(.i ((↑(findI (fun (k : Nat) => hit g0 x1 x2 ((0 : Nat) + k)) (Int.toNat ((↑n0 : Int) - (0 : Int))) (0 : Nat)) : Int)))])
 (.ok [(.i ((-1 : Int)))]))
 (.no)
def y_idxF : Nat → Option Nat := (syOf3 [] [] [])
def TL_idxF (l : List At) : Tr (List At) := T_idxF (aRn l 0) (aRg l 0) (aI l 1) (aI l 2)
theorem e_idxF (l : List At) : (call Try.prog Γ_isKey y_idxF Lp_idxF_2 100 Try.f19 (mkV ish_idxF l) (mkH ish_idxF l)).bind (leafO 2 osh_idxF) = TL_idxF l := by kernel_rfl
def r_idxF_0 (n0 : Nat) (g0 : Nat → Nat → Int) (x1 : Int) (x2 : Int) : Int :=
  bif decide ((0 : Int) ≤ (0 : Int) ∧ (↑n0 : Int) = (↑n0 : Int) ∧ (0 : Int) ≤ (↑n0 : Int) ∧ (↑n0 : Int) ≤ (9223372036854775807 : Int)) then (bif decide (findI (fun (k : Nat) => hit g0 x1 x2 ((0 : Nat) + k)) (Int.toNat ((↑n0 : Int) - (0 : Int))) (0 : Nat) < Int.toNat (↑n0 : Int)) then ((↑(findI (fun (k : Nat) => hit g0 x1 x2 ((0 : Nat) + k)) (Int.toNat ((↑n0 : Int) - (0 : Int))) (0 : Nat)) : Int))
  else (-1 : Int))
  else 0
def ok_idxF (n0 : Nat) (g0 : Nat → Nat → Int) (x1 : Int) (x2 : Int) : Bool :=
  bif decide ((0 : Int) ≤ (0 : Int) ∧ (↑n0 : Int) = (↑n0 : Int) ∧ (0 : Int) ≤ (↑n0 : Int) ∧ (↑n0 : Int) ≤ (9223372036854775807 : Int)) then (bif decide (findI (fun (k : Nat) => hit g0 x1 x2 ((0 : Nat) + k)) (Int.toNat ((↑n0 : Int) - (0 : Int))) (0 : Nat) < Int.toNat (↑n0 : Int)) then (true)
  else true)
  else false
def F_idxF : List At → Tr (List At) := fun l => .br 0 (ok_idxF (aRn l 0) (aRg l 0) (aI l 1) (aI l 2)) (.ok [.i (r_idxF_0 (aRn l 0) (aRg l 0) (aI l 1) (aI l 2))]) .no
theorem s_idxF : SpecF Try.prog 19 (.read (locR ish_idxF osh_idxF F_idxF)) :=
  spec_read (sy := y_idxF) (fuel := 100) (Lp := Lp_idxF_2) o_isKey mixed ⟨Try.func19, by kernel_rfl, by kernel_rfl⟩ ish_idxF osh_idxF (by kernel_rfl) lk_idxF_2 (hT_merged [.i] e_idxF (fun l => by kernel_rfl) (fun l => by kernel_rfl))
def Γ_idxF : Specs := upd Γ_isKey 19 (.read (locR ish_idxF osh_idxF F_idxF))
theorem o_idxF : SpecOK Try.prog Γ_idxF := SpecOK.upd o_isKey s_idxF

/-! ### at -/

def ish_at : FSh := ⟨[.v false [.p 0 0], .v true [.k (.n .u64), .k (.n .u64)]], [.roc [.sw 1 5], .rows [.n .u64, .n .u64, .n .i64, .n .i64, .n .i64] false]⟩
def osh_at : FSh := ⟨[.v false [.k (.n .i64)]], [.no, .no]⟩
def T_at (x0 : Int) (x1 : Int) (n2 : Nat) (g2 : Nat → Nat → Int) : Tr (List At) :=
 .br 0 (ok_idxF n2 (fun (j cc : Nat) => g2 ((0 : Nat) + j) cc) x0 x1)
 (.ok [(.i (r_idxF_0 n2 (fun (j cc : Nat) => g2 ((0 : Nat) + j) cc) x0 x1))])
 (.no)
def y_at : Nat → Option Nat := (syOf3 [] [] [])
def TL_at (l : List At) : Tr (List At) := T_at (aI l 0) (aI l 1) (aRn l 2) (aRg l 2)
theorem e_at (l : List At) : (call Try.prog Γ_idxF y_at noLoops 100 Try.f16 (mkV ish_at l) (mkH ish_at l)).bind (leafO 2 osh_at) = TL_at l := by kernel_rfl
def F_at : List At → Tr (List At) := TL_at
theorem s_at : SpecF Try.prog 16 (.read (locR ish_at osh_at F_at)) :=
  spec_read (sy := y_at) (fuel := 100) (Lp := noLoops) o_idxF mixed ⟨Try.func16, by kernel_rfl, by kernel_rfl⟩ ish_at osh_at (by kernel_rfl) (noLoops_ok _) (hT_ways e_at)
def Γ_at : Specs := upd Γ_idxF 16 (.read (locR ish_at osh_at F_at))
theorem o_at : SpecOK Try.prog Γ_at := SpecOK.upd o_idxF s_at

end Go.Proofs.Ytimdpdkgiibndaa.G
end

/-
  What functions of the seat compute, printed by a program from the explorer.
-/
section
namespace Go.Proofs.Ytimdpdkgiibndaa.G
open Go Go.AM Go.Proofs
/-! ### del -/

def ish_del : FSh := ⟨[.v false [.sw 0 5], .v false [.k (.n .i64)], .v false [.k (.n .i64)]], [.rows [.n .u64, .n .u64, .n .i64, .n .i64, .n .i64] true]⟩
def osh_del : FSh := ⟨[.v false [.sw 1 5]], [.no, .rows [.n .u64, .n .u64, .n .i64, .n .i64, .n .i64] true]⟩
def del_c0 (x0 : Int) (x1 : Int) (n2 : Nat) : Bool := Decidable.decide ((0 : Int) ≤ (↑(Int.toNat x0 - (0 : Nat) + (Int.toNat (↑n2 : Int) - Int.toNat x1)) : Int)) && Decidable.decide ((↑(Int.toNat x0 - (0 : Nat) + (Int.toNat (↑n2 : Int) - Int.toNat x1)) : Int) ≤ (↑n2 : Int)) && Decidable.decide ((↑n2 : Int) ≤ (↑(n2 - (0 : Nat)) : Int)) && Decidable.decide ((↑(Int.toNat x0 - (0 : Nat) + (Int.toNat (↑n2 : Int) - Int.toNat x1)) : Int) ≤ (↑(Int.toNat x0 - (0 : Nat) + (Int.toNat (↑n2 : Int) - Int.toNat x1)) : Int))
def T_del (x0 : Int) (x1 : Int) (n2 : Nat) (g2 : Nat → Nat → Int) : Tr (List At) :=
 .br 13 (Decidable.decide ((0 : Int) ≤ x0) && Decidable.decide (x0 ≤ x1) && Decidable.decide (x1 ≤ (↑n2 : Int)) && Decidable.decide ((↑n2 : Int) ≤ (↑n2 : Int)))
 (.br 16 (x0 == x1)
 (.ok [(.r (n2) (g2))])
 (.br 22 (Bool.true && Decidable.decide ((0 : Int) ≤ x0) && Decidable.decide (x0 ≤ (↑n2 : Int)))
 (.br 25 (Decidable.decide ((0 : Int) ≤ x1) && Decidable.decide (x1 ≤ (↑n2 : Int)))
 (.br 26 (Bool.true && Decidable.decide (Int.toNat x0 - (0 : Nat) + (Int.toNat (↑n2 : Int) - Int.toNat x1) ≤ n2 - (0 : Nat)))
 (.br 31 ((del_c0 x0 x1 n2))
 (.ok [(.r (Int.toNat x0 - (0 : Nat) + (Int.toNat (↑n2 : Int) - Int.toNat x1)) (Go.AM.appG g2 (Int.toNat x0 - (0 : Nat)) fun (j c : Nat) => g2 ((0 : Nat) + Int.toNat x1 + j) c))])
 (.no))
 (.no))
 (.no))
 (.no)))
 (.no)
def y_del : Nat → Option Nat := (syOf3 [13, 16, 22, 25, 26, 31] [] [])
def TL_del (l : List At) : Tr (List At) := T_del (aI l 0) (aI l 1) (aRn l 2) (aRg l 2)
theorem e_del (l : List At) : (call Try.prog Γ_at y_del noLoops 100 Try.f17 (mkV ish_del l) (mkH ish_del l)).bind (leafO 1 osh_del) = TL_del l := by kernel_rfl
def F_del : List At → Tr (List At) := TL_del
theorem s_del : SpecF Try.prog 17 (.eff (locF ish_del osh_del F_del)) :=
  spec_loc (sy := y_del) (fuel := 100) (Lp := noLoops) o_at mixed ⟨Try.func17, by kernel_rfl, by kernel_rfl⟩ ish_del osh_del (noLoops_ok _) (hT_ways e_del)
def Γ_del : Specs := upd Γ_at 17 (.eff (locF ish_del osh_del F_del))
theorem o_del : SpecOK Try.prog Γ_del := SpecOK.upd o_at s_del

end Go.Proofs.Ytimdpdkgiibndaa.G
end

/-
  What functions of the seat compute, printed by a program from the explorer.
-/
section
namespace Go.Proofs.Ytimdpdkgiibndaa.G
open Go Go.AM Go.Proofs
/-! ### add -/

def ish_add : FSh := ⟨[.v false [.p 0 0], .v false [.k (.n .u64)], .v false [.k (.n .u64)], .v true [.k (.n .i64), .k (.n .i64), .k (.n .i64)]], [.cells [.sw 1 5], .rows [.n .u64, .n .u64, .n .i64, .n .i64, .n .i64] true]⟩
def osh_add : FSh := ⟨[.tup []], [.cells [.sw 2 5], .no, .rows [.n .u64, .n .u64, .n .i64, .n .i64, .n .i64] true]⟩
def add_c9 (n5 : Nat) : Bool := Decidable.decide (n5 + (1 : Nat) ≤ (1073741824 : Nat))
def add_c22 (n5 : Nat) : Bool := Decidable.decide ((0 : Nat) + (Int.toNat (↑n5 : Int) - (1 : Nat)) + (1 : Nat) ≤ (1073741824 : Nat))
def add_c24 (n5 : Nat) : Bool := Decidable.decide ((0 : Nat) + (Int.toNat (↑n5 : Int) - (1 : Nat)) ≤ n5 - (0 : Nat))
def add_c25 (n5 : Nat) : Bool := Bool.true && (add_c24 n5)
def add_c26  : Bool := Decidable.decide ((0 : Int) ≤ (1 : Int))
def add_c27 (n5 : Nat) : Bool := Decidable.decide ((1 : Int) ≤ (↑n5 : Int))
def add_c28 (n5 : Nat) : Bool := (add_c26) && (add_c27 n5)
def add_c29  : Bool := Decidable.decide ((0 : Int) ≤ (0 : Int))
def add_c30  : Bool := Bool.true && (add_c29)
def add_c31 (n5 : Nat) : Bool := Decidable.decide ((0 : Int) ≤ (↑n5 : Int))
def add_c32 (n5 : Nat) : Bool := (add_c30) && (add_c31 n5)
def add_c33  : Bool := Decidable.decide ((0 : Int) ≤ (1 : Int))
def add_c34  : Bool := (add_c29) && (add_c33)
def add_c35 (n5 : Nat) : Bool := (add_c34) && (add_c27 n5)
def add_c36 (n5 : Nat) : Bool := Decidable.decide ((↑n5 : Int) ≤ (↑n5 : Int))
def add_c37 (n5 : Nat) : Bool := (add_c35 n5) && (add_c36 n5)
def add_c39 (n5 : Nat) : Bool := Decidable.decide (n5 + (1 : Nat) ≤ (1073741824 : Nat))
def add_c42 (n5 : Nat) : Bool := Decidable.decide ((↑n5 : Int) ≥ (8 : Int))
def add_c57 (x0 : Int) (x1 : Int) (n5 : Nat) (g5 : Nat → Nat → Int) : Bool := Decidable.decide (Int.toNat (Go.Proofs.Ytimdpdkgiibndaa.G.r_idxF_0 n5 (fun (j cc : Nat) => g5 ((0 : Nat) + j) cc) x0 x1) - (0 : Nat) + (Int.toNat (↑n5 : Int) - Int.toNat (Go.IntKind.wrap Go.IntKind.i64 (Go.Proofs.Ytimdpdkgiibndaa.G.r_idxF_0 n5 (fun (j cc : Nat) => g5 ((0 : Nat) + j) cc) x0 x1 + (1 : Int)))) + (1 : Nat) ≤ (1073741824 : Nat))
def add_c70 (x0 : Int) (x1 : Int) (n5 : Nat) (g5 : Nat → Nat → Int) : Bool := Decidable.decide ((0 : Nat) + (Int.toNat (↑(Int.toNat (Go.Proofs.Ytimdpdkgiibndaa.G.r_idxF_0 n5 (fun (j cc : Nat) => g5 ((0 : Nat) + j) cc) x0 x1) - (0 : Nat) + (Int.toNat (↑n5 : Int) - Int.toNat (Go.IntKind.wrap Go.IntKind.i64 (Go.Proofs.Ytimdpdkgiibndaa.G.r_idxF_0 n5 (fun (j cc : Nat) => g5 ((0 : Nat) + j) cc) x0 x1 + (1 : Int))))) : Int) - (1 : Nat)) + (1 : Nat) ≤ (1073741824 : Nat))
def add_c71 (x0 : Int) (x1 : Int) (n5 : Nat) (g5 : Nat → Nat → Int) : Nat := Int.toNat (Go.Proofs.Ytimdpdkgiibndaa.G.r_idxF_0 n5 (fun (j cc : Nat) => g5 ((0 : Nat) + j) cc) x0 x1) - (0 : Nat) + (Int.toNat (↑n5 : Int) - Int.toNat (Go.IntKind.wrap Go.IntKind.i64 (Go.Proofs.Ytimdpdkgiibndaa.G.r_idxF_0 n5 (fun (j cc : Nat) => g5 ((0 : Nat) + j) cc) x0 x1 + (1 : Int))))
def add_c73 (x0 : Int) (x1 : Int) (n5 : Nat) (g5 : Nat → Nat → Int) : Bool := Decidable.decide ((0 : Nat) + (Int.toNat (↑(add_c71 x0 x1 n5 g5) : Int) - (1 : Nat)) ≤ (add_c71 x0 x1 n5 g5) - (0 : Nat))
def add_c74 (x0 : Int) (x1 : Int) (n5 : Nat) (g5 : Nat → Nat → Int) : Bool := Bool.true && (add_c73 x0 x1 n5 g5)
def add_c75  : Bool := Decidable.decide ((0 : Int) ≤ (1 : Int))
def add_c76 (x0 : Int) (x1 : Int) (n5 : Nat) (g5 : Nat → Nat → Int) : Bool := Decidable.decide ((1 : Int) ≤ (↑(add_c71 x0 x1 n5 g5) : Int))
def add_c77 (x0 : Int) (x1 : Int) (n5 : Nat) (g5 : Nat → Nat → Int) : Bool := (add_c75) && (add_c76 x0 x1 n5 g5)
def add_c78  : Bool := Decidable.decide ((0 : Int) ≤ (0 : Int))
def add_c79  : Bool := Bool.true && (add_c78)
def add_c80 (x0 : Int) (x1 : Int) (n5 : Nat) (g5 : Nat → Nat → Int) : Bool := Decidable.decide ((0 : Int) ≤ (↑(add_c71 x0 x1 n5 g5) : Int))
def add_c81 (x0 : Int) (x1 : Int) (n5 : Nat) (g5 : Nat → Nat → Int) : Bool := (add_c79) && (add_c80 x0 x1 n5 g5)
def add_c82  : Bool := Decidable.decide ((0 : Int) ≤ (1 : Int))
def add_c83  : Bool := (add_c78) && (add_c82)
def add_c84 (x0 : Int) (x1 : Int) (n5 : Nat) (g5 : Nat → Nat → Int) : Bool := (add_c83) && (add_c76 x0 x1 n5 g5)
def add_c85 (x0 : Int) (x1 : Int) (n5 : Nat) (g5 : Nat → Nat → Int) : Int := (↑(add_c71 x0 x1 n5 g5) : Int)
def add_c86 (x0 : Int) (x1 : Int) (n5 : Nat) (g5 : Nat → Nat → Int) : Bool := Decidable.decide ((add_c85 x0 x1 n5 g5) ≤ (add_c85 x0 x1 n5 g5))
def add_c87 (x0 : Int) (x1 : Int) (n5 : Nat) (g5 : Nat → Nat → Int) : Bool := (add_c84 x0 x1 n5 g5) && (add_c86 x0 x1 n5 g5)
def add_c89 (x0 : Int) (x1 : Int) (n5 : Nat) (g5 : Nat → Nat → Int) : Bool := Decidable.decide ((add_c71 x0 x1 n5 g5) + (1 : Nat) ≤ (1073741824 : Nat))
def add_c92 (x0 : Int) (x1 : Int) (n5 : Nat) (g5 : Nat → Nat → Int) : Bool := Decidable.decide ((add_c85 x0 x1 n5 g5) ≥ (8 : Int))
def add_c94 (x0 : Int) (x1 : Int) (n5 : Nat) (g5 : Nat → Nat → Int) : Bool := Decidable.decide ((add_c71 x0 x1 n5 g5) ≤ n5 - (0 : Nat))
def add_c95 (x0 : Int) (x1 : Int) (n5 : Nat) (g5 : Nat → Nat → Int) : Bool := Bool.true && (add_c94 x0 x1 n5 g5)
def add_c96 (x0 : Int) (x1 : Int) (n5 : Nat) (g5 : Nat → Nat → Int) : Bool := Decidable.decide ((0 : Int) ≤ Go.IntKind.wrap Go.IntKind.i64 (Go.Proofs.Ytimdpdkgiibndaa.G.r_idxF_0 n5 (fun (j cc : Nat) => g5 ((0 : Nat) + j) cc) x0 x1 + (1 : Int)))
def add_c97 (x0 : Int) (x1 : Int) (n5 : Nat) (g5 : Nat → Nat → Int) : Bool := Decidable.decide (Go.IntKind.wrap Go.IntKind.i64 (Go.Proofs.Ytimdpdkgiibndaa.G.r_idxF_0 n5 (fun (j cc : Nat) => g5 ((0 : Nat) + j) cc) x0 x1 + (1 : Int)) ≤ (↑n5 : Int))
def add_c98 (x0 : Int) (x1 : Int) (n5 : Nat) (g5 : Nat → Nat → Int) : Bool := (add_c96 x0 x1 n5 g5) && (add_c97 x0 x1 n5 g5)
def add_c99 (x0 : Int) (x1 : Int) (n5 : Nat) (g5 : Nat → Nat → Int) : Bool := Decidable.decide ((0 : Int) ≤ Go.Proofs.Ytimdpdkgiibndaa.G.r_idxF_0 n5 (fun (j cc : Nat) => g5 ((0 : Nat) + j) cc) x0 x1)
def add_c100 (x0 : Int) (x1 : Int) (n5 : Nat) (g5 : Nat → Nat → Int) : Bool := Bool.true && (add_c99 x0 x1 n5 g5)
def add_c101 (x0 : Int) (x1 : Int) (n5 : Nat) (g5 : Nat → Nat → Int) : Bool := Decidable.decide (Go.Proofs.Ytimdpdkgiibndaa.G.r_idxF_0 n5 (fun (j cc : Nat) => g5 ((0 : Nat) + j) cc) x0 x1 ≤ (↑n5 : Int))
def add_c102 (x0 : Int) (x1 : Int) (n5 : Nat) (g5 : Nat → Nat → Int) : Bool := (add_c100 x0 x1 n5 g5) && (add_c101 x0 x1 n5 g5)
def add_c103 (x0 : Int) (x1 : Int) (n5 : Nat) (g5 : Nat → Nat → Int) : Bool := Decidable.decide (Go.Proofs.Ytimdpdkgiibndaa.G.r_idxF_0 n5 (fun (j cc : Nat) => g5 ((0 : Nat) + j) cc) x0 x1 ≤ Go.IntKind.wrap Go.IntKind.i64 (Go.Proofs.Ytimdpdkgiibndaa.G.r_idxF_0 n5 (fun (j cc : Nat) => g5 ((0 : Nat) + j) cc) x0 x1 + (1 : Int)))
def add_c104 (x0 : Int) (x1 : Int) (n5 : Nat) (g5 : Nat → Nat → Int) : Bool := (add_c99 x0 x1 n5 g5) && (add_c103 x0 x1 n5 g5)
def add_c105 (x0 : Int) (x1 : Int) (n5 : Nat) (g5 : Nat → Nat → Int) : Bool := (add_c104 x0 x1 n5 g5) && (add_c97 x0 x1 n5 g5)
def add_c106 (n5 : Nat) : Bool := Decidable.decide ((↑n5 : Int) ≤ (↑n5 : Int))
def add_c107 (x0 : Int) (x1 : Int) (n5 : Nat) (g5 : Nat → Nat → Int) : Bool := (add_c105 x0 x1 n5 g5) && (add_c106 n5)
def add_c113 (n5 : Nat) : Bool := Decidable.decide ((0 : Nat) + (Int.toNat (↑n5 : Int) - (1 : Nat)) + (1 : Nat) ≤ (1073741824 : Nat))
def add_c115 (n5 : Nat) : Bool := Decidable.decide ((0 : Nat) + (Int.toNat (↑n5 : Int) - (1 : Nat)) ≤ n5 - (0 : Nat))
def add_c116 (n5 : Nat) : Bool := Bool.true && (add_c115 n5)
def add_c118 (n5 : Nat) : Bool := Decidable.decide ((0 : Int) ≤ (1 : Int)) && Decidable.decide ((1 : Int) ≤ (↑n5 : Int))
def add_c120 (n5 : Nat) : Bool := Bool.true && Decidable.decide ((0 : Int) ≤ (0 : Int)) && Decidable.decide ((0 : Int) ≤ (↑n5 : Int))
def add_c121  : Bool := Decidable.decide ((0 : Int) ≤ (0 : Int)) && Decidable.decide ((0 : Int) ≤ (1 : Int))
def add_c123 (n5 : Nat) : Bool := (add_c121) && Decidable.decide ((1 : Int) ≤ (↑n5 : Int))
def add_c124 (n5 : Nat) : Bool := (add_c123 n5) && Decidable.decide ((↑n5 : Int) ≤ (↑n5 : Int))
def add_c125 (x0 : Int) (x1 : Int) (n5 : Nat) (g5 : Nat → Nat → Int) : Bool := Decidable.decide (Go.Proofs.Ytimdpdkgiibndaa.G.r_idxF_0 n5 (fun (j cc : Nat) => g5 ((0 : Nat) + j) cc) x0 x1 ≥ (0 : Int))
def T_add (x0 : Int) (x1 : Int) (x2 : Int) (x3 : Int) (x4 : Int) (n5 : Nat) (g5 : Nat → Nat → Int) : Tr (List At) :=
 .br 0 (Go.Proofs.Ytimdpdkgiibndaa.G.ok_idxF n5 (fun (j cc : Nat) => g5 ((0 : Nat) + j) cc) x0 x1)
 (.br 17 ((add_c125 x0 x1 n5 g5))
 (.br 13 ((add_c107 x0 x1 n5 g5))
 (.br 16 (Go.Proofs.Ytimdpdkgiibndaa.G.r_idxF_0 n5 (fun (j cc : Nat) => g5 ((0 : Nat) + j) cc) x0 x1 == Go.IntKind.wrap Go.IntKind.i64 (Go.Proofs.Ytimdpdkgiibndaa.G.r_idxF_0 n5 (fun (j cc : Nat) => g5 ((0 : Nat) + j) cc) x0 x1 + (1 : Int)))
 (.br 34 ((add_c42 n5))
 (.br 13 ((add_c37 n5))
 (.br 16 (Bool.false)
 (.br 53 ((add_c9 n5))
 (.ok [(.r (n5 + (1 : Nat)) (Go.AM.appG g5 n5 (Go.AM.rowsF [[x0, x1, x2, (0 : Int), x4]])))])
 (.no))
 (.br 22 ((add_c32 n5))
 (.br 25 ((add_c28 n5))
 (.br 26 ((add_c25 n5))
 (.br 31 (Go.Proofs.Ytimdpdkgiibndaa.G.del_c0 (0 : Int) (1 : Int) n5)
 (.br 53 ((add_c22 n5))
 (.ok [(.r ((0 : Nat) + (Int.toNat (↑n5 : Int) - (1 : Nat)) + (1 : Nat)) (Go.AM.appG (Go.AM.appG g5 (0 : Nat) fun (j c : Nat) => g5 ((1 : Nat) + j) c) ((0 : Nat) + (Int.toNat (↑n5 : Int) - (1 : Nat))) (Go.AM.rowsF [[x0, x1, x2, (0 : Int), x4]])))])
 (.no))
 (.no))
 (.no))
 (.no))
 (.no)))
 (.no))
 (.br 53 ((add_c39 n5))
 (.ok [(.r (n5 + (1 : Nat)) (Go.AM.appG g5 n5 (Go.AM.rowsF [[x0, x1, x2, (0 : Int), x4]])))])
 (.no)))
 (.br 22 ((add_c102 x0 x1 n5 g5))
 (.br 25 ((add_c98 x0 x1 n5 g5))
 (.br 26 ((add_c95 x0 x1 n5 g5))
 (.br 31 (Go.Proofs.Ytimdpdkgiibndaa.G.del_c0 (Go.Proofs.Ytimdpdkgiibndaa.G.r_idxF_0 n5 (fun (j cc : Nat) => g5 ((0 : Nat) + j) cc) x0 x1) (Go.IntKind.wrap Go.IntKind.i64 (Go.Proofs.Ytimdpdkgiibndaa.G.r_idxF_0 n5 (fun (j cc : Nat) => g5 ((0 : Nat) + j) cc) x0 x1 + (1 : Int))) n5)
 (.br 34 ((add_c92 x0 x1 n5 g5))
 (.br 13 ((add_c87 x0 x1 n5 g5))
 (.br 16 (Bool.false)
 (.br 53 ((add_c57 x0 x1 n5 g5))
 (.ok [(.r (Int.toNat (Go.Proofs.Ytimdpdkgiibndaa.G.r_idxF_0 n5 (fun (j cc : Nat) => g5 ((0 : Nat) + j) cc) x0 x1) - (0 : Nat) + (Int.toNat (↑n5 : Int) - Int.toNat (Go.IntKind.wrap Go.IntKind.i64 (Go.Proofs.Ytimdpdkgiibndaa.G.r_idxF_0 n5 (fun (j cc : Nat) => g5 ((0 : Nat) + j) cc) x0 x1 + (1 : Int)))) + (1 : Nat)) (Go.AM.appG (Go.AM.appG g5 (Int.toNat (Go.Proofs.Ytimdpdkgiibndaa.G.r_idxF_0 n5 (fun (j cc : Nat) => g5 ((0 : Nat) + j) cc) x0 x1) - (0 : Nat)) fun (j c : Nat) => g5 ((0 : Nat) + Int.toNat (Go.IntKind.wrap Go.IntKind.i64 (Go.Proofs.Ytimdpdkgiibndaa.G.r_idxF_0 n5 (fun (j cc : Nat) => g5 ((0 : Nat) + j) cc) x0 x1 + (1 : Int))) + j) c) (Int.toNat (Go.Proofs.Ytimdpdkgiibndaa.G.r_idxF_0 n5 (fun (j cc : Nat) => g5 ((0 : Nat) + j) cc) x0 x1) - (0 : Nat) + (Int.toNat (↑n5 : Int) - Int.toNat (Go.IntKind.wrap Go.IntKind.i64 (Go.Proofs.Ytimdpdkgiibndaa.G.r_idxF_0 n5 (fun (j cc : Nat) => g5 ((0 : Nat) + j) cc) x0 x1 + (1 : Int))))) (Go.AM.rowsF [[x0, x1, x2, (0 : Int), x4]])))])
 (.no))
 (.br 22 ((add_c81 x0 x1 n5 g5))
 (.br 25 ((add_c77 x0 x1 n5 g5))
 (.br 26 ((add_c74 x0 x1 n5 g5))
 (.br 31 (Go.Proofs.Ytimdpdkgiibndaa.G.del_c0 (0 : Int) (1 : Int) (Int.toNat (Go.Proofs.Ytimdpdkgiibndaa.G.r_idxF_0 n5 (fun (j cc : Nat) => g5 ((0 : Nat) + j) cc) x0 x1) - (0 : Nat) + (Int.toNat (↑n5 : Int) - Int.toNat (Go.IntKind.wrap Go.IntKind.i64 (Go.Proofs.Ytimdpdkgiibndaa.G.r_idxF_0 n5 (fun (j cc : Nat) => g5 ((0 : Nat) + j) cc) x0 x1 + (1 : Int))))))
 (.br 53 ((add_c70 x0 x1 n5 g5))
 (.ok [(.r ((0 : Nat) + (Int.toNat (↑(Int.toNat (Go.Proofs.Ytimdpdkgiibndaa.G.r_idxF_0 n5 (fun (j cc : Nat) => g5 ((0 : Nat) + j) cc) x0 x1) - (0 : Nat) + (Int.toNat (↑n5 : Int) - Int.toNat (Go.IntKind.wrap Go.IntKind.i64 (Go.Proofs.Ytimdpdkgiibndaa.G.r_idxF_0 n5 (fun (j cc : Nat) => g5 ((0 : Nat) + j) cc) x0 x1 + (1 : Int))))) : Int) - (1 : Nat)) + (1 : Nat)) (Go.AM.appG (Go.AM.appG (Go.AM.appG g5 (Int.toNat (Go.Proofs.Ytimdpdkgiibndaa.G.r_idxF_0 n5 (fun (j cc : Nat) => g5 ((0 : Nat) + j) cc) x0 x1) - (0 : Nat)) fun (j c : Nat) => g5 ((0 : Nat) + Int.toNat (Go.IntKind.wrap Go.IntKind.i64 (Go.Proofs.Ytimdpdkgiibndaa.G.r_idxF_0 n5 (fun (j cc : Nat) => g5 ((0 : Nat) + j) cc) x0 x1 + (1 : Int))) + j) c) (0 : Nat) fun (j c : Nat) => Go.AM.appG g5 (Int.toNat (Go.Proofs.Ytimdpdkgiibndaa.G.r_idxF_0 n5 (fun (j cc : Nat) => g5 ((0 : Nat) + j) cc) x0 x1) - (0 : Nat)) (fun (j c : Nat) => g5 ((0 : Nat) + Int.toNat (Go.IntKind.wrap Go.IntKind.i64 (Go.Proofs.Ytimdpdkgiibndaa.G.r_idxF_0 n5 (fun (j cc : Nat) => g5 ((0 : Nat) + j) cc) x0 x1 + (1 : Int))) + j) c) ((1 : Nat) + j) c) ((0 : Nat) + (Int.toNat (↑(Int.toNat (Go.Proofs.Ytimdpdkgiibndaa.G.r_idxF_0 n5 (fun (j cc : Nat) => g5 ((0 : Nat) + j) cc) x0 x1) - (0 : Nat) + (Int.toNat (↑n5 : Int) - Int.toNat (Go.IntKind.wrap Go.IntKind.i64 (Go.Proofs.Ytimdpdkgiibndaa.G.r_idxF_0 n5 (fun (j cc : Nat) => g5 ((0 : Nat) + j) cc) x0 x1 + (1 : Int))))) : Int) - (1 : Nat))) (Go.AM.rowsF [[x0, x1, x2, (0 : Int), x4]])))])
 (.no))
 (.no))
 (.no))
 (.no))
 (.no)))
 (.no))
 (.br 53 ((add_c89 x0 x1 n5 g5))
 (.ok [(.r ((add_c71 x0 x1 n5 g5) + (1 : Nat)) (Go.AM.appG (Go.AM.appG g5 (Int.toNat (Go.Proofs.Ytimdpdkgiibndaa.G.r_idxF_0 n5 (fun (j cc : Nat) => g5 ((0 : Nat) + j) cc) x0 x1) - (0 : Nat)) fun (j c : Nat) => g5 ((0 : Nat) + Int.toNat (Go.IntKind.wrap Go.IntKind.i64 (Go.Proofs.Ytimdpdkgiibndaa.G.r_idxF_0 n5 (fun (j cc : Nat) => g5 ((0 : Nat) + j) cc) x0 x1 + (1 : Int))) + j) c) (add_c71 x0 x1 n5 g5) (Go.AM.rowsF [[x0, x1, x2, (0 : Int), x4]])))])
 (.no)))
 (.no))
 (.no))
 (.no))
 (.no)))
 (.no))
 (.br 34 (Decidable.decide ((↑n5 : Int) ≥ (8 : Int)))
 (.br 13 ((add_c124 n5))
 (.br 16 (Bool.false)
 (.br 53 (Decidable.decide (n5 + (1 : Nat) ≤ (1073741824 : Nat)))
 (.ok [(.r (n5 + (1 : Nat)) (Go.AM.appG g5 n5 (Go.AM.rowsF [[x0, x1, x2, (0 : Int), x4]])))])
 (.no))
 (.br 22 ((add_c120 n5))
 (.br 25 ((add_c118 n5))
 (.br 26 ((add_c116 n5))
 (.br 31 (Go.Proofs.Ytimdpdkgiibndaa.G.del_c0 (0 : Int) (1 : Int) n5)
 (.br 53 ((add_c113 n5))
 (.ok [(.r ((0 : Nat) + (Int.toNat (↑n5 : Int) - (1 : Nat)) + (1 : Nat)) (Go.AM.appG (Go.AM.appG g5 (0 : Nat) fun (j c : Nat) => g5 ((1 : Nat) + j) c) ((0 : Nat) + (Int.toNat (↑n5 : Int) - (1 : Nat))) (Go.AM.rowsF [[x0, x1, x2, (0 : Int), x4]])))])
 (.no))
 (.no))
 (.no))
 (.no))
 (.no)))
 (.no))
 (.br 53 (Decidable.decide (n5 + (1 : Nat) ≤ (1073741824 : Nat)))
 (.ok [(.r (n5 + (1 : Nat)) (Go.AM.appG g5 n5 (Go.AM.rowsF [[x0, x1, x2, (0 : Int), x4]])))])
 (.no))))
 (.no)
def y_add : Nat → Option Nat := (syOf3 [17, 13, 16, 34, 22, 25, 26, 31, 53] [] [])
def TL_add (l : List At) : Tr (List At) := T_add (aI l 0) (aI l 1) (aI l 2) (aI l 3) (aI l 4) (aRn l 5) (aRg l 5)
theorem e_add (l : List At) : (call Try.prog Γ_del y_add noLoops 100 Try.f8 (mkV ish_add l) (mkH ish_add l)).bind (leafO 2 osh_add) = TL_add l := by kernel_rfl
def F_add : List At → Tr (List At) := TL_add
theorem s_add : SpecF Try.prog 8 (.eff (locF ish_add osh_add F_add)) :=
  spec_loc (sy := y_add) (fuel := 100) (Lp := noLoops) o_del mixed ⟨Try.func8, by kernel_rfl, by kernel_rfl⟩ ish_add osh_add (noLoops_ok _) (hT_ways e_add)
def Γ_add : Specs := upd Γ_del 8 (.eff (locF ish_add osh_add F_add))
theorem o_add : SpecOK Try.prog Γ_add := SpecOK.upd o_del s_add

end Go.Proofs.Ytimdpdkgiibndaa.G
end

/-
  What functions of the seat compute, printed by a program from the explorer.
-/
section
namespace Go.Proofs.Ytimdpdkgiibndaa.G
open Go Go.AM Go.Proofs
/-! ### find -/

def ish_find : FSh := ⟨[.v false [.p 0 0], .v false [.k (.n .u64)], .v false [.k (.n .u64)]], [.roc [.sw 1 5], .rows [.n .u64, .n .u64, .n .i64, .n .i64, .n .i64] false]⟩
def osh_find : FSh := ⟨[.tup [(true, [.k (.n .i64), .k (.n .i64), .k (.n .i64)]), (false, [.k .b])]], [.no, .no]⟩
def find_c2 (x0 : Int) (x1 : Int) (n2 : Nat) (g2 : Nat → Nat → Int) : Bool := Decidable.decide (Go.Proofs.Ytimdpdkgiibndaa.G.r_idxF_0 n2 (fun (j cc : Nat) => g2 ((0 : Nat) + j) cc) x0 x1 < (0 : Int))
def T_find (x0 : Int) (x1 : Int) (n2 : Nat) (g2 : Nat → Nat → Int) : Tr (List At) :=
 .br 0 (Go.Proofs.Ytimdpdkgiibndaa.G.ok_idxF n2 (fun (j cc : Nat) => g2 ((0 : Nat) + j) cc) x0 x1)
 (.br 15 ((find_c2 x0 x1 n2 g2))
 (.ok [(.i ((0 : Int))), (.i ((0 : Int))), (.i ((0 : Int))), (.b (Bool.false))])
 (.br 22 (Go.AM.within (Go.Proofs.Ytimdpdkgiibndaa.G.r_idxF_0 n2 (fun (j cc : Nat) => g2 ((0 : Nat) + j) cc) x0 x1) n2)
 (.ok [(.i (g2 (Int.toNat (Go.Proofs.Ytimdpdkgiibndaa.G.r_idxF_0 n2 (fun (j cc : Nat) => g2 ((0 : Nat) + j) cc) x0 x1)) (2 : Nat))), (.i (g2 (Int.toNat (Go.Proofs.Ytimdpdkgiibndaa.G.r_idxF_0 n2 (fun (j cc : Nat) => g2 ((0 : Nat) + j) cc) x0 x1)) (3 : Nat))), (.i (g2 (Int.toNat (Go.Proofs.Ytimdpdkgiibndaa.G.r_idxF_0 n2 (fun (j cc : Nat) => g2 ((0 : Nat) + j) cc) x0 x1)) (4 : Nat))), (.b (Bool.true))])
 (.no)))
 (.no)
def y_find : Nat → Option Nat := (syOf3 [15, 22] [] [])
def TL_find (l : List At) : Tr (List At) := T_find (aI l 0) (aI l 1) (aRn l 2) (aRg l 2)
theorem e_find (l : List At) : (call Try.prog Γ_add y_find noLoops 100 Try.f9 (mkV ish_find l) (mkH ish_find l)).bind (leafO 2 osh_find) = TL_find l := by kernel_rfl
def F_find : List At → Tr (List At) := TL_find
theorem s_find : SpecF Try.prog 9 (.read (locR ish_find osh_find F_find)) :=
  spec_read (sy := y_find) (fuel := 100) (Lp := noLoops) o_add mixed ⟨Try.func9, by kernel_rfl, by kernel_rfl⟩ ish_find osh_find (by kernel_rfl) (noLoops_ok _) (hT_ways e_find)
def Γ_find : Specs := upd Γ_add 9 (.read (locR ish_find osh_find F_find))
theorem o_find : SpecOK Try.prog Γ_find := SpecOK.upd o_add s_find

/-! ### len -/

def ish_len : FSh := ⟨[.v false [.p 0 0]], [.roc [.sw 1 5], .rows [.n .u64, .n .u64, .n .i64, .n .i64, .n .i64] false]⟩
def osh_len : FSh := ⟨[.v false [.k (.n .i64)]], [.no, .no]⟩
def T_len (n0 : Nat) (g0 : Nat → Nat → Int) : Tr (List At) :=
 .ok [(.i ((↑n0 : Int)))]
def y_len : Nat → Option Nat := (syOf3 [] [] [])
def TL_len (l : List At) : Tr (List At) := T_len (aRn l 0) (aRg l 0)
theorem e_len (l : List At) : (call Try.prog Γ_find y_len noLoops 100 Try.f10 (mkV ish_len l) (mkH ish_len l)).bind (leafO 2 osh_len) = TL_len l := by kernel_rfl
def F_len : List At → Tr (List At) := TL_len
theorem s_len : SpecF Try.prog 10 (.read (locR ish_len osh_len F_len)) :=
  spec_read (sy := y_len) (fuel := 100) (Lp := noLoops) o_find mixed ⟨Try.func10, by kernel_rfl, by kernel_rfl⟩ ish_len osh_len (by kernel_rfl) (noLoops_ok _) (hT_ways e_len)
def Γ_len : Specs := upd Γ_find 10 (.read (locR ish_len osh_len F_len))
theorem o_len : SpecOK Try.prog Γ_len := SpecOK.upd o_find s_len

/-! ### clear -/

def ish_clear : FSh := ⟨[.v false [.p 0 0]], [.cells [.sw 1 5], .rows [.n .u64, .n .u64, .n .i64, .n .i64, .n .i64] true]⟩
def osh_clear : FSh := ⟨[.tup []], [.cells [.slnil], .no]⟩
def T_clear (n0 : Nat) (g0 : Nat → Nat → Int) : Tr (List At) :=
 .ok []
def y_clear : Nat → Option Nat := (syOf3 [] [] [])
def TL_clear (l : List At) : Tr (List At) := T_clear (aRn l 0) (aRg l 0)
theorem e_clear (l : List At) : (call Try.prog Γ_len y_clear noLoops 100 Try.f11 (mkV ish_clear l) (mkH ish_clear l)).bind (leafO 2 osh_clear) = TL_clear l := by kernel_rfl
def F_clear : List At → Tr (List At) := TL_clear
theorem s_clear : SpecF Try.prog 11 (.eff (locF ish_clear osh_clear F_clear)) :=
  spec_loc (sy := y_clear) (fuel := 100) (Lp := noLoops) o_len mixed ⟨Try.func11, by kernel_rfl, by kernel_rfl⟩ ish_clear osh_clear (noLoops_ok _) (hT_ways e_clear)
def Γ_clear : Specs := upd Γ_len 11 (.eff (locF ish_clear osh_clear F_clear))
theorem o_clear : SpecOK Try.prog Γ_clear := SpecOK.upd o_len s_clear

/-! ### new -/

def ish_new : FSh := ⟨[], []⟩
def osh_new : FSh := ⟨[.v false [.p 0 0]], [.cells [.slnil]]⟩
def T_new  : Tr (List At) :=
 .ok []
def y_new : Nat → Option Nat := (syOf3 [] [] [])
def TL_new (l : List At) : Tr (List At) := T_new 
theorem e_new (l : List At) : (call Try.prog Γ_clear y_new noLoops 100 Try.f7 (mkV ish_new l) (mkH ish_new l)).bind (leafO 0 osh_new) = TL_new l := by kernel_rfl
def F_new : List At → Tr (List At) := TL_new
theorem s_new : SpecF Try.prog 7 (.eff (locF ish_new osh_new F_new)) :=
  spec_loc (sy := y_new) (fuel := 100) (Lp := noLoops) o_clear mixed ⟨Try.func7, by kernel_rfl, by kernel_rfl⟩ ish_new osh_new (noLoops_ok _) (hT_ways e_new)
def Γ_new : Specs := upd Γ_clear 7 (.eff (locF ish_new osh_new F_new))
theorem o_new : SpecOK Try.prog Γ_new := SpecOK.upd o_clear s_new

end Go.Proofs.Ytimdpdkgiibndaa.G
end

/-
  What looks for a way, and what adds one, in few words.
-/
section
namespace Go.Proofs.Ytimdpdkgiibndaa.G
open Go Go.AM Go.Proofs

def idx (n : Nat) (g : Nat → Nat → Int) (s p : Int) : Nat := findI (hit g s p) n 0
def fnd (n : Nat) (g : Nat → Nat → Int) (s p : Int) : Bool := decide (idx n g s p < n)

theorem r_idx {n : Nat} {g : Nat → Nat → Int} {s p : Int} (h : n ≤ 4611686018427387904) :
    ok_idxF n (fun j cc => g (0 + j) cc) s p = true ∧ r_idxF_0 n (fun j cc => g (0 + j) cc) s p = bif fnd n g s p then (idx n g s p : Int) else -1 := by
  have hg : (fun (j cc : Nat) => g (0 + j) cc) = g := by funext j cc; rw [Nat.zero_add]
  have hk : (fun (k : Nat) => hit g s p (0 + k)) = hit g s p := by funext k; rw [Nat.zero_add]
  have e1 : ((n : Int) - 0).toNat = n := by omega
  have e2 : (n : Int).toNat = n := by omega
  have hc : decide ((0 : Int) ≤ (0 : Int) ∧ (n : Int) = (n : Int) ∧ (0 : Int) ≤ (n : Int) ∧ (n : Int) ≤ (9223372036854775807 : Int)) = true := decide_eq_true (by omega)
  unfold ok_idxF r_idxF_0
  rw [hg, hk, e1, e2, hc]
  constructor
  · simp only [cond_true]
    cases decide (findI (hit g s p) n 0 < n) <;> rfl
  · rfl

def delG (g : Nat → Nat → Int) (i : Nat) : Nat → Nat → Int := fun k c => if k < i then g k c else g (k + 1) c
def oneN (n : Nat) (g : Nat → Nat → Int) (s p : Int) : Nat := bif fnd n g s p then n - 1 else n
def oneG (n : Nat) (g : Nat → Nat → Int) (s p : Int) : Nat → Nat → Int := bif fnd n g s p then delG g (idx n g s p) else g
def twoN (n : Nat) (g : Nat → Nat → Int) (s p : Int) : Nat := bif decide (8 ≤ oneN n g s p) then oneN n g s p - 1 else oneN n g s p
def twoG (n : Nat) (g : Nat → Nat → Int) (s p : Int) : Nat → Nat → Int := bif decide (8 ≤ oneN n g s p) then delG (oneG n g s p) 0 else oneG n g s p
def addN (n : Nat) (g : Nat → Nat → Int) (s p : Int) : Nat := twoN n g s p + 1
def addG (n : Nat) (g : Nat → Nat → Int) (s p a c : Int) : Nat → Nat → Int := appG (twoG n g s p) (twoN n g s p) (rowsF [[s, p, a, 0, c]])

theorem app_del {g : Nat → Nat → Int} {i j : Nat} (hj : j = i + 1) : (appG g i fun (k c : Nat) => g (0 + j + k) c) = delG g i := by
  subst hj
  funext k c
  unfold appG delG
  by_cases h : k < i
  · rw [if_pos h, if_pos h]
  · rw [if_neg h, if_neg h]
    exact congrArg (fun z => g z c) (by omega)

theorem t_add {x0 x1 x2 x3 x4 : Int} {n : Nat} {g : Nat → Nat → Int} (h : n ≤ 8) :
    (T_add x0 x1 x2 x3 x4 n g).sat fun r => AtsEq r [.r (addN n g x0 x1) (addG n g x0 x1 x2 x4)] := by
  obtain ⟨ho, hr⟩ := r_idx (n := n) (g := g) (s := x0) (p := x1) (by omega)
  unfold T_add add_c125 add_c124 add_c123 add_c121 add_c120 add_c118 add_c116 add_c115 add_c113 add_c107 add_c106 add_c105 add_c104 add_c103 add_c102 add_c101 add_c100 add_c99 add_c98 add_c97 add_c96 add_c95 add_c94 add_c92 add_c89 add_c87 add_c86 add_c85 add_c84 add_c83 add_c82 add_c81 add_c80 add_c79 add_c78 add_c77 add_c76 add_c75 add_c74 add_c73 add_c71 add_c70 add_c57 add_c42 add_c39 add_c37 add_c36 add_c35 add_c34 add_c33 add_c32 add_c31 add_c30 add_c29 add_c28 add_c27 add_c26 add_c25 add_c24 add_c22 add_c9 del_c0
  rw [ho, hr]
  refine brT rfl ?_
  cases hf : fnd n g x0 x1 with
  | true =>
    have hi : idx n g x0 x1 < n := of_decide_eq_true hf
    have hw : IntKind.i64.wrap ((idx n g x0 x1 : Int) + 1) = (idx n g x0 x1 : Int) + 1 := wrap_i64 (by omega) (by omega)
    have hN : idx n g x0 x1 - 0 + ((n : Int).toNat - ((idx n g x0 x1 : Int) + 1).toNat) = n - 1 := by omega
    have hI : (idx n g x0 x1 : Int).toNat = idx n g x0 x1 := by omega
    have hJ : ((idx n g x0 x1 : Int) + 1).toNat = idx n g x0 x1 + 1 := by omega
    simp only [cond_true, hw, hI, hN]
    refine brT (by simp only [decide_eq_true_eq]; omega) ?_
    refine brT (by simp only [Bool.and_eq_true, decide_eq_true_eq]; omega) ?_
    refine brF (by rw [beq_eq_false_iff_ne]; omega) ?_
    refine brT (by simp only [Bool.true_and, Bool.and_eq_true, decide_eq_true_eq]; omega) ?_
    refine brT (by simp only [Bool.and_eq_true, decide_eq_true_eq]; omega) ?_
    refine brT (by simp only [Bool.true_and, decide_eq_true_eq]; omega) ?_
    refine brT (by simp only [Bool.and_eq_true, decide_eq_true_eq]; omega) ?_
    refine brF (by simp only [decide_eq_false_iff_not]; omega) ?_
    refine brT (by simp only [decide_eq_true_eq]; omega) (Tr.sat_ok.2 (atsEq_cons (atEq_r ?_ fun k _ c => ?_) atsEq_nil))
    · unfold addN twoN oneN
      rw [hf, cond_true, decide_eq_false (by omega), cond_false]
    · unfold addG twoG twoN oneN oneG
      rw [hf, cond_true, cond_true, decide_eq_false (by omega), cond_false, cond_false, Nat.sub_zero, app_del hJ]
  | false =>
    simp only [cond_false]
    refine brF (by simp only [decide_eq_false_iff_not]; omega) ?_
    refine brD (fun h8 => ?_) (fun h8 => ?_)
    · have e1 : n = 8 := by omega
      subst e1
      refine brT rfl (brF rfl (brT rfl (brT rfl (brT rfl (brT rfl (brT rfl (Tr.sat_ok.2 (atsEq_cons (atEq_r ?_ fun k _ c => ?_) atsEq_nil))))))))
      · unfold addN twoN oneN
        rw [hf]; rfl
      · unfold addG twoG twoN oneN oneG
        rw [hf]
        show appG (appG g 0 fun (j c : Nat) => g (1 + j) c) 7 (rowsF [[x0, x1, x2, 0, x4]]) k c = appG (delG g 0) 7 (rowsF [[x0, x1, x2, 0, x4]]) k c
        have := app_del (g := g) (i := 0) (j := 1) rfl
        simp only [Nat.zero_add] at this
        rw [this]
    · refine brT (by simp only [decide_eq_true_eq]; omega) (Tr.sat_ok.2 (atsEq_cons (atEq_r ?_ fun k _ c => ?_) atsEq_nil))
      · unfold addN twoN oneN
        rw [hf, cond_false, decide_eq_false (by omega), cond_false]
      · unfold addG twoG twoN oneN oneG
        rw [hf, cond_false, cond_false, decide_eq_false (by omega), cond_false, cond_false]

def F2_add (l : List At) : Tr (List At) := .br 0 (decide (aRn l 5 ≤ 8)) (.ok [.r (addN (aRn l 5) (aRg l 5) (aI l 0) (aI l 1)) (addG (aRn l 5) (aRg l 5) (aI l 0) (aI l 1) (aI l 2) (aI l 4))]) .no
theorem h_add : ∀ l r, (F2_add l).val = some r → ∃ r', ((call Try.prog Γ_del y_add noLoops 100 Try.f8 (mkV ish_add l) (mkH ish_add l)).bind (leafO 2 osh_add)).val = some r' ∧ AtsEq r' r := by
  intro l r h
  obtain ⟨hc, h⟩ := guard_val h
  have := val_ok h
  subst this
  obtain ⟨r', h1, h2⟩ := t_add (x0 := aI l 0) (x1 := aI l 1) (x2 := aI l 2) (x3 := aI l 3) (x4 := aI l 4) (g := aRg l 5) (of_decide_eq_true hc)
  exact ⟨r', by rw [e_add]; exact h1, h2⟩
theorem s2_add : SpecF Try.prog 8 (.eff (locF ish_add osh_add F2_add)) :=
  spec_loc (sy := y_add) (fuel := 100) (Lp := noLoops) o_del mixed ⟨Try.func8, by kernel_rfl, by kernel_rfl⟩ ish_add osh_add (noLoops_ok _) h_add

def fndI (n : Nat) (g : Nat → Nat → Int) (s p : Int) (c : Nat) : Int := bif fnd n g s p then g (idx n g s p) c else 0
def F2_find (l : List At) : Tr (List At) := .br 0 (decide (aRn l 2 ≤ 4611686018427387904)) (.ok [.i (fndI (aRn l 2) (aRg l 2) (aI l 0) (aI l 1) 2), .i (fndI (aRn l 2) (aRg l 2) (aI l 0) (aI l 1) 3), .i (fndI (aRn l 2) (aRg l 2) (aI l 0) (aI l 1) 4), .b (fnd (aRn l 2) (aRg l 2) (aI l 0) (aI l 1))]) .no
theorem t_find {x0 x1 : Int} {n : Nat} {g : Nat → Nat → Int} (h : n ≤ 4611686018427387904) :
    (T_find x0 x1 n g).sat fun r => r = [.i (fndI n g x0 x1 2), .i (fndI n g x0 x1 3), .i (fndI n g x0 x1 4), .b (fnd n g x0 x1)] := by
  obtain ⟨ho, hr⟩ := r_idx (n := n) (g := g) (s := x0) (p := x1) h
  unfold T_find find_c2 fndI
  rw [ho, hr]
  refine brT rfl ?_
  cases hf : fnd n g x0 x1 with
  | true =>
    have hi : idx n g x0 x1 < n := of_decide_eq_true hf
    have hI : (idx n g x0 x1 : Int).toNat = idx n g x0 x1 := by omega
    simp only [cond_true, hI]
    exact brF (by simp only [decide_eq_false_iff_not]; omega) (brT (by simp only [within, Bool.and_eq_true, decide_eq_true_eq]; omega) (Tr.sat_ok.2 rfl))
  | false => exact brT rfl (Tr.sat_ok.2 rfl)
theorem h_find : ∀ l r, (F2_find l).val = some r → ∃ r', ((call Try.prog Γ_add y_find noLoops 100 Try.f9 (mkV ish_find l) (mkH ish_find l)).bind (leafO 2 osh_find)).val = some r' ∧ AtsEq r' r := by
  intro l r h
  obtain ⟨hc, h⟩ := guard_val h
  have := val_ok h
  subst this
  obtain ⟨r', h1, h2⟩ := t_find (x0 := aI l 0) (x1 := aI l 1) (g := aRg l 2) (of_decide_eq_true hc)
  exact ⟨r', by rw [e_find]; exact h1, by rw [h2]; exact AtsEq.refl _⟩
theorem s2_find : SpecF Try.prog 9 (.read (locR ish_find osh_find F2_find)) :=
  spec_read (sy := y_find) (fuel := 100) (Lp := noLoops) o_add mixed ⟨Try.func9, by kernel_rfl, by kernel_rfl⟩ ish_find osh_find (by kernel_rfl) (noLoops_ok _) h_find
def Γ_S5 : Specs := (upd (upd Γ_new 8 (.eff (locF ish_add osh_add F2_add))) 9 (.read (locR ish_find osh_find F2_find)))
theorem o_S5 : SpecOK Try.prog Γ_S5 := (SpecOK.upd (SpecOK.upd o_new s2_add) s2_find)
end Go.Proofs.Ytimdpdkgiibndaa.G
end

/-
  What functions of the seat compute, printed by a program from the explorer.
-/
section
namespace Go.Proofs.Ytimdpdkgiibndaa.G
open Go Go.AM Go.Proofs
/-! ### shown -/

def ish_shown : FSh := ⟨[], []⟩
def osh_shown : FSh := ⟨[.v false [.k .b]], []⟩
def T_shown  : Tr (List At) :=
 .br 0 (Bool.true)
 (.br 0 (Bool.true)
 (.br 0 (Bool.true)
 (.br 0 (Bool.true)
 (.br 0 (Bool.true)
 (.br 0 (Bool.true)
 (.br 0 (Bool.true)
 (.br 0 (Bool.true)
 (.br 0 (Bool.true)
 (.br 0 (Bool.true)
 (.br 0 (Bool.true)
 (.br 0 (Bool.true)
 (.ok [(.b (Bool.true))])
 (.no))
 (.no))
 (.no))
 (.no))
 (.no))
 (.no))
 (.no))
 (.no))
 (.no))
 (.no))
 (.no))
 (.no)
def y_shown : Nat → Option Nat := (syOf3 [] [] [])
def TL_shown (l : List At) : Tr (List At) := T_shown 
theorem e_shown (l : List At) : (call Try.prog Γ_S5 y_shown noLoops 100 Try.f6 (mkV ish_shown l) (mkH ish_shown l)).bind (leafO 0 osh_shown) = TL_shown l := by kernel_rfl
def F_shown : List At → Tr (List At) := TL_shown
theorem s_shown : SpecF Try.prog 6 (.eff (locF ish_shown osh_shown F_shown)) :=
  spec_loc (sy := y_shown) (fuel := 100) (Lp := noLoops) o_S5 mixed ⟨Try.func6, by kernel_rfl, by kernel_rfl⟩ ish_shown osh_shown (noLoops_ok _) (hT_ways e_shown)
def Γ_shown : Specs := upd Γ_S5 6 (.eff (locF ish_shown osh_shown F_shown))
theorem o_shown : SpecOK Try.prog Γ_shown := SpecOK.upd o_S5 s_shown

end Go.Proofs.Ytimdpdkgiibndaa.G
end

/-
  A cache's ways, all of different keys.
-/
section
namespace Go.Proofs.Ytimdpdkgiibndaa.G
open Go Go.AM Go.Proofs

noncomputable def pdec (p : Prop) : Bool := @decide p (Classical.propDecidable p)
theorem pdec_yes {p : Prop} (h : p) : pdec p = true := @decide_eq_true p (Classical.propDecidable p) h
theorem of_pdec {p : Prop} (h : pdec p = true) : p := @of_decide_eq_true p (Classical.propDecidable p) h
theorem appG_at {g src : Nat → Nat → Int} {n : Nat} (c : Nat) : appG g n src n c = src 0 c := by unfold appG; rw [if_neg (by omega), Nat.sub_self]
theorem appG_lt {g src : Nat → Nat → Int} {n k : Nat} (h : k < n) (c : Nat) : appG g n src k c = g k c := by unfold appG; rw [if_pos h]

/-- No two ways of one key. -/
def Dist (n : Nat) (g : Nat → Nat → Int) : Prop := ∀ i j, i < j → j < n → ¬ (g i 0 = g j 0 ∧ g i 1 = g j 1)
/-- No way of this key. -/
def NK (n : Nat) (g : Nat → Nat → Int) (s p : Int) : Prop := ∀ k, k < n → hit g s p k = false

theorem hit_iff {g : Nat → Nat → Int} {s p : Int} {k : Nat} : hit g s p k = true ↔ g k 0 = s ∧ g k 1 = p := by
  unfold hit r_isKey_0
  simp only [Bool.and_true, Bool.and_eq_true, beq_iff_eq]
theorem hit_not {g : Nat → Nat → Int} {s p : Int} {k : Nat} : hit g s p k = false ↔ ¬ (g k 0 = s ∧ g k 1 = p) := by
  rw [← hit_iff]; cases hit g s p k <;> simp
theorem del_lt {g : Nat → Nat → Int} {i k : Nat} (h : k < i) (c : Nat) : delG g i k c = g k c := by unfold delG; rw [if_pos h]
theorem del_ge {g : Nat → Nat → Int} {i k : Nat} (h : ¬ k < i) (c : Nat) : delG g i k c = g (k + 1) c := by unfold delG; rw [if_neg h]
theorem del_at (g : Nat → Nat → Int) (i k : Nat) : ∃ k', (∀ c, delG g i k c = g k' c) ∧ k ≤ k' ∧ k' ≤ k + 1 ∧ (k < i → k' = k) ∧ (¬ k < i → k' = k + 1) := by
  by_cases h : k < i
  · exact ⟨k, fun c => del_lt h c, by omega, by omega, by omega, by omega⟩
  · exact ⟨k + 1, fun c => del_ge h c, by omega, by omega, by omega, by omega⟩
theorem del_dist {n : Nat} {g : Nat → Nat → Int} (h : Dist n g) (q : Nat) : Dist (n - 1) (delG g q) := by
  intro i j h1 h2
  obtain ⟨i', ei, a1, a2, a3, a4⟩ := del_at g q i
  obtain ⟨j', ej, b1, b2, b3, b4⟩ := del_at g q j
  rw [ei, ei, ej, ej]
  refine h i' j' ?_ (by omega)
  by_cases h3 : i < q
  · have := a3 h3; omega
  · have := a4 h3; have := b4 (by omega); omega
theorem del_nk {n : Nat} {g : Nat → Nat → Int} {s p : Int} (h : NK n g s p) (q : Nat) : NK (n - 1) (delG g q) s p := by
  intro k hk
  obtain ⟨k', e, a1, a2, _, _⟩ := del_at g q k
  rw [hit_not, e, e]
  exact hit_not.1 (h k' (by omega))

theorem idx_spec (n : Nat) (g : Nat → Nat → Int) (s p : Int) : idx n g s p ≤ n ∧ (idx n g s p < n → hit g s p (idx n g s p) = true) ∧ ∀ k, k < idx n g s p → hit g s p k = false := by
  obtain ⟨_, b, c, d⟩ := findI_spec (hit g s p) n 0
  rw [Nat.zero_add] at b c
  exact ⟨b, c, fun k hk => d k (Nat.zero_le _) hk⟩
theorem one_dist {n : Nat} {g : Nat → Nat → Int} {s p : Int} (h : Dist n g) : Dist (oneN n g s p) (oneG n g s p) := by
  unfold oneN oneG
  cases fnd n g s p with
  | true => exact del_dist h _
  | false => exact h
theorem one_nk {n : Nat} {g : Nat → Nat → Int} {s p : Int} (h : Dist n g) : NK (oneN n g s p) (oneG n g s p) s p := by
  obtain ⟨a, b, c⟩ := idx_spec n g s p
  unfold oneN oneG
  cases hf : fnd n g s p with
  | true =>
    have hi : idx n g s p < n := of_decide_eq_true hf
    obtain ⟨b1, b2⟩ := hit_iff.1 (b hi)
    intro k hk
    have hk : k < n - 1 := hk
    show hit (delG g (idx n g s p)) s p k = false
    by_cases h1 : k < idx n g s p
    · rw [hit_not, del_lt h1, del_lt h1]; exact hit_not.1 (c k h1)
    · rw [hit_not, del_ge h1, del_ge h1]
      have := h (idx n g s p) (k + 1) (by omega) (by omega)
      rw [b1, b2] at this
      exact fun hh => this ⟨hh.1.symm, hh.2.symm⟩
  | false =>
    have hi : ¬ idx n g s p < n := of_decide_eq_false hf
    exact fun k hk => c k (by have : k < n := hk; omega)
theorem two_all {n : Nat} {g : Nat → Nat → Int} {s p : Int} (h : Dist n g) (hn : n ≤ 8) : twoN n g s p ≤ 7 ∧ Dist (twoN n g s p) (twoG n g s p) ∧ NK (twoN n g s p) (twoG n g s p) s p := by
  have hd := one_dist (s := s) (p := p) h
  have hk := one_nk (s := s) (p := p) h
  have hl : oneN n g s p ≤ 8 := by unfold oneN; cases fnd n g s p <;> simp <;> omega
  unfold twoN twoG
  cases h8 : decide (8 ≤ oneN n g s p) with
  | true =>
    exact ⟨by simp only [cond_true]; omega, del_dist hd 0, del_nk hk 0⟩
  | false =>
    have := of_decide_eq_false h8
    exact ⟨by simp only [cond_false]; omega, hd, hk⟩
theorem row_at (s p a c : Int) : rowsF [[s, p, a, 0, c]] 0 0 = s ∧ rowsF [[s, p, a, 0, c]] 0 1 = p ∧ rowsF [[s, p, a, 0, c]] 0 2 = a ∧ rowsF [[s, p, a, 0, c]] 0 3 = 0 ∧ rowsF [[s, p, a, 0, c]] 0 4 = c := ⟨rfl, rfl, rfl, rfl, rfl⟩

theorem add_all {n : Nat} {g : Nat → Nat → Int} {s p : Int} (a c : Int) (h : Dist n g) (hn : n ≤ 8) :
    addN n g s p ≤ 8 ∧ Dist (addN n g s p) (addG n g s p a c) ∧ idx (addN n g s p) (addG n g s p a c) s p = twoN n g s p := by
  obtain ⟨t1, t2, t3⟩ := two_all (s := s) (p := p) h hn
  obtain ⟨r0, r1, _⟩ := row_at s p a c
  refine ⟨by unfold addN; omega, ?_, ?_⟩
  · unfold addN addG
    intro i j h1 h2
    rcases Nat.lt_or_ge j (twoN n g s p) with h3 | h3
    · rw [appG_lt (k := i) (by omega) 0, appG_lt (k := i) (by omega) 1, appG_lt h3 0, appG_lt h3 1]
      exact t2 i j h1 h3
    · obtain rfl : j = twoN n g s p := by omega
      rw [appG_lt h1, appG_lt h1, appG_at, appG_at, r0, r1]
      exact hit_not.1 (t3 i h1)
  · obtain ⟨a1, a2, a3⟩ := idx_spec (addN n g s p) (addG n g s p a c) s p
    have hl : hit (addG n g s p a c) s p (twoN n g s p) = true := by
      rw [hit_iff]; unfold addG
      rw [appG_at, appG_at, r0, r1]; exact ⟨rfl, rfl⟩
    have hx : addN n g s p = twoN n g s p + 1 := rfl
    rcases Nat.lt_trichotomy (idx (addN n g s p) (addG n g s p a c) s p) (twoN n g s p) with h1 | h1 | h1
    · exfalso
      have := a2 (by omega)
      rw [hit_iff] at this
      unfold addG at this
      rw [appG_lt (by unfold addG at h1; exact h1), appG_lt (by unfold addG at h1; exact h1)] at this
      have h4 := hit_not.1 (t3 _ h1)
      unfold addG at h4
      exact h4 this
    · exact h1
    · exfalso
      rw [a3 _ h1] at hl; cases hl

theorem add_fnd {n : Nat} {g : Nat → Nat → Int} {s p : Int} (a c : Int) (h : Dist n g) (hn : n ≤ 8) :
    fnd (addN n g s p) (addG n g s p a c) s p = true ∧ fndI (addN n g s p) (addG n g s p a c) s p 2 = a ∧ fndI (addN n g s p) (addG n g s p a c) s p 3 = 0 ∧ fndI (addN n g s p) (addG n g s p a c) s p 4 = c := by
  obtain ⟨a1, a2, a3⟩ := add_all (s := s) (p := p) a c h hn
  obtain ⟨_, _, r2, r3, r4⟩ := row_at s p a c
  have hf : fnd (addN n g s p) (addG n g s p a c) s p = true := decide_eq_true (by rw [a3]; exact Nat.lt_succ_self _)
  unfold fndI
  rw [hf, cond_true, cond_true, cond_true, a3]
  unfold addG
  rw [appG_at, appG_at, appG_at, r2, r3, r4]
  exact ⟨rfl, rfl, rfl, rfl⟩
theorem add_again {n : Nat} {g : Nat → Nat → Int} {s p : Int} (a c : Int) (h : Dist n g) (hn : n ≤ 8) : addN (addN n g s p) (addG n g s p a c) s p = addN n g s p := by
  obtain ⟨hf, _⟩ := add_fnd (s := s) (p := p) a c h hn
  have t1 := (two_all (s := s) (p := p) h hn).1
  have hx : addN n g s p = twoN n g s p + 1 := rfl
  unfold addN twoN oneN at *
  rw [hf, cond_true]
  rw [decide_eq_false (by omega), cond_false]
  omega
end Go.Proofs.Ytimdpdkgiibndaa.G
end

/-
  What functions of the seat compute, printed by a program from the explorer.
-/
section
namespace Go.Proofs.Ytimdpdkgiibndaa.G
open Go Go.AM Go.Proofs
/-! ### the loop at 3 of radd -/

noncomputable def lsh_radd_3 : FSh := ⟨[.v false [.p 0 0], .v false [.k (.n .u64)], .v false [.k (.n .u64)], .any, .any, .any, .any, .v false [.p 2 0], .v false [.sw 3 5], .v false [.k (.n .i64)], .any, .any, .any, .any, .any, .any, .any, .any, .any, .any, .any, .any, .any, .any, .any, .any, .any, .any, .any, .any, .any, .any, .any, .any, .any, .any, .any, .any, .any, .any, .any, .any, .any, .any, .any, .any, .any, .any, .any, .any, .any, .any, .any, .any, .any, .any, .any, .any, .any, .any, .any, .any, .any, .any, .any, .any, .any, .any, .any], [.cells [.sw 1 5], .rows [.n .u64, .n .u64, .n .i64, .n .i64, .n .i64] true, .cells [.k (.n .i64), .k (.n .i64), .k (.n .i64)], .rows [.n .u64, .n .u64, .n .i64, .n .i64, .n .i64] true]⟩
noncomputable def xsh_radd_3_0 : FSh := ⟨[.v false [.p 0 0], .v false [.k (.n .u64)], .v false [.k (.n .u64)], .any, .any, .any, .any, .v false [.p 2 0], .v false [.sw 3 5], .any, .any, .any, .any, .any, .any, .any, .any, .any, .any, .any, .any, .any, .any, .any, .any, .any, .any, .any, .any, .any, .any, .any, .any, .any, .any, .any, .any, .any, .any, .any, .any, .any, .any, .any, .any, .any, .any, .any, .any, .any, .any, .any, .any, .any, .any, .any, .any, .any, .any, .any, .any, .any, .any, .any, .any, .any, .any, .any, .any], [.cells [.sw 1 5], .rows [.n .u64, .n .u64, .n .i64, .n .i64, .n .i64] true, .cells [.k (.n .i64), .k (.n .i64), .k (.n .i64)], .rows [.n .u64, .n .u64, .n .i64, .n .i64, .n .i64] true]⟩
noncomputable def xs_radd_3 : Exs := fun e => match e with
  | .normal => some lsh_radd_3
  | .exit n => (match Nat.beq n 0 with | true => some xsh_radd_3_0 | false => none)
  | .ret => none
noncomputable def B_radd_3 (x0 : Int) (x1 : Int) (x2 : Int) (n3 : Nat) (g3 : Nat → Nat → Int) (x4 : Int) (x5 : Int) (x6 : Int) (n7 : Nat) (g7 : Nat → Nat → Int) : Tr (Ex × List At) :=
 .br 16 (Decidable.decide (x2 < (↑n3 : Int)))
 (.br 24 (Go.AM.within x2 n3)
 (.br 29 (g3 (Int.toNat x2) (0 : Nat) != x0)
 (.br 47 (Go.AM.within x2 n3)
 (.br 50 (Decidable.decide (n7 + (1 : Nat) ≤ (1073741824 : Nat)))
 (.ok (.normal, [(.i (x0)), (.i (x1)), (.i (Go.IntKind.wrap Go.IntKind.i64 (x2 + (1 : Int)))), (.r (n3) (g3)), (.i (x4)), (.i (x5)), (.i (x6)), (.r (n7 + (1 : Nat)) (Go.AM.appG g7 n7 (Go.AM.rowsF [[g3 (Int.toNat x2) (0 : Nat), g3 (Int.toNat x2) (1 : Nat), g3 (Int.toNat x2) (2 : Nat), g3 (Int.toNat x2) (3 : Nat), g3 (Int.toNat x2) (4 : Nat)]])))]))
 (.no))
 (.no))
 (.br 35 (Go.AM.within x2 n3)
 (.br 40 (g3 (Int.toNat x2) (1 : Nat) != x1)
 (.br 47 (Go.AM.within x2 n3)
 (.br 50 (Decidable.decide (n7 + (1 : Nat) ≤ (1073741824 : Nat)))
 (.ok (.normal, [(.i (x0)), (.i (x1)), (.i (Go.IntKind.wrap Go.IntKind.i64 (x2 + (1 : Int)))), (.r (n3) (g3)), (.i (x4)), (.i (x5)), (.i (x6)), (.r (n7 + (1 : Nat)) (Go.AM.appG g7 n7 (Go.AM.rowsF [[g3 (Int.toNat x2) (0 : Nat), g3 (Int.toNat x2) (1 : Nat), g3 (Int.toNat x2) (2 : Nat), g3 (Int.toNat x2) (3 : Nat), g3 (Int.toNat x2) (4 : Nat)]])))]))
 (.no))
 (.no))
 (.ok (.normal, [(.i (x0)), (.i (x1)), (.i (Go.IntKind.wrap Go.IntKind.i64 (x2 + (1 : Int)))), (.r (n3) (g3)), (.i (x4)), (.i (x5)), (.i (x6)), (.r (n7) (g7))])))
 (.no)))
 (.no))
 (.ok (.exit 0, [(.i (x0)), (.i (x1)), (.r (n3) (g3)), (.i (x4)), (.i (x5)), (.i (x6)), (.r (n7) (g7))]))
noncomputable def y_radd_3 : Nat → Option Nat := (syOf3 [16, 24, 29, 47, 50, 35, 40] [] [])
noncomputable def BL_radd_3 (l : List At) : Tr (Ex × List At) := B_radd_3 (aI l 0) (aI l 1) (aI l 2) (aRn l 3) (aRg l 3) (aI l 4) (aI l 5) (aI l 6) (aRn l 7) (aRg l 7)
theorem eB_radd_3 (l : List At) : (exec Try.prog Γ_shown y_radd_3 noLoops 100 (loopAt Try.f13 3) ⟨mkV lsh_radd_3 l, mkH lsh_radd_3 l⟩).bind (leafL 2 xs_radd_3) = BL_radd_3 l := by kernel_rfl
/- by hand: O_radd_3 (x0 : Int) (x1 : Int) (x2 : Int) (n3 : Nat) (g3 : Nat → Nat → Int) (x4 : Int) (x5 : Int) (x6 : Int) (n7 : Nat) (g7 : Nat → Nat → Int) : Tr (Ex × List At); OL_radd_3 (l) := O_radd_3 (aI l 0) (aI l 1) (aI l 2) (aRn l 3) (aRg l 3) (aI l 4) (aI l 5) (aI l 6) (aRn l 7) (aRg l 7); μ_radd_3 : List At → Nat; rd_radd_3 : ∀ l r, (OL_radd_3 l).val = some r → RoundA BL_radd_3 OL_radd_3 μ_radd_3 l r -/

/-! ### the loop at 2 of rfind -/

noncomputable def lsh_rfind_2 : FSh := ⟨[.v false [.p 0 0], .v false [.k (.n .u64)], .v false [.k (.n .u64)], .any, .any, .any, .v false [.p 2 0], .any, .v false [.k (.n .i64)], .any, .any, .any, .any, .any, .any, .any, .any, .any, .any, .any, .any, .any, .any, .any, .any, .any, .any, .any, .any, .any, .any, .any, .any, .any, .any, .any, .any, .any, .any, .any, .any, .any, .any, .any, .any, .any, .any, .any, .any], [.roc [.sw 1 5], .rows [.n .u64, .n .u64, .n .i64, .n .i64, .n .i64] false, .cells [.k (.n .i64), .k (.n .i64), .k (.n .i64)]]⟩
noncomputable def xsh_rfind_2_0 : FSh := ⟨[.any, .any, .any, .any, .any, .any, .v false [.p 2 0], .any, .any, .any, .any, .any, .any, .any, .any, .any, .any, .any, .any, .any, .any, .any, .any, .any, .any, .any, .any, .any, .any, .any, .any, .any, .any, .any, .any, .any, .any, .any, .any, .any, .any, .any, .any, .any, .any, .any, .any, .any, .any], [.no, .no, .cells [.k (.n .i64), .k (.n .i64), .k (.n .i64)]]⟩
noncomputable def xsh_rfind_2_1 : FSh := ⟨[.any, .any, .any, .any, .any, .any, .v false [.p 2 0], .v false [.k .b], .any, .any, .any, .any, .any, .any, .any, .any, .any, .any, .any, .any, .any, .any, .any, .any, .any, .any, .any, .any, .any, .any, .any, .any, .any, .any, .any, .any, .any, .any, .any, .any, .any, .any, .any, .any, .any, .any, .any, .any, .any], [.no, .no, .cells [.k (.n .i64), .k (.n .i64), .k (.n .i64)]]⟩
noncomputable def xs_rfind_2 : Exs := fun e => match e with
  | .normal => some lsh_rfind_2
  | .exit n => (match Nat.beq n 0 with | true => some xsh_rfind_2_0 | false => none)
  | .ret => some xsh_rfind_2_1
noncomputable def B_rfind_2 (x0 : Int) (x1 : Int) (x2 : Int) (n3 : Nat) (g3 : Nat → Nat → Int) (x4 : Int) (x5 : Int) (x6 : Int) : Tr (Ex × List At) :=
 .br 15 (Decidable.decide (x2 < (↑n3 : Int)))
 (.br 23 (Go.AM.within x2 n3)
 (.br 28 (g3 (Int.toNat x2) (0 : Nat) == x0)
 (.br 34 (Go.AM.within x2 n3)
 (.br 39 (g3 (Int.toNat x2) (1 : Nat) == x1)
 (.br 45 (Go.AM.within x2 n3)
 (.ok (.ret, [(.b (Bool.true)), (.i (g3 (Int.toNat x2) (2 : Nat))), (.i (g3 (Int.toNat x2) (3 : Nat))), (.i (g3 (Int.toNat x2) (4 : Nat)))]))
 (.no))
 (.ok (.normal, [(.i (x0)), (.i (x1)), (.i (Go.IntKind.wrap Go.IntKind.i64 (x2 + (1 : Int)))), (.r (n3) (g3)), (.i (x4)), (.i (x5)), (.i (x6))])))
 (.no))
 (.ok (.normal, [(.i (x0)), (.i (x1)), (.i (Go.IntKind.wrap Go.IntKind.i64 (x2 + (1 : Int)))), (.r (n3) (g3)), (.i (x4)), (.i (x5)), (.i (x6))])))
 (.no))
 (.ok (.exit 0, [(.i (x4)), (.i (x5)), (.i (x6))]))
noncomputable def y_rfind_2 : Nat → Option Nat := (syOf3 [15, 23, 28, 34, 39, 45] [] [])
noncomputable def BL_rfind_2 (l : List At) : Tr (Ex × List At) := B_rfind_2 (aI l 0) (aI l 1) (aI l 2) (aRn l 3) (aRg l 3) (aI l 4) (aI l 5) (aI l 6)
theorem eB_rfind_2 (l : List At) : (exec Try.prog Γ_shown y_rfind_2 noLoops 100 (loopAt Try.f15 2) ⟨mkV lsh_rfind_2 l, mkH lsh_rfind_2 l⟩).bind (leafL 2 xs_rfind_2) = BL_rfind_2 l := by kernel_rfl
/- by hand: O_rfind_2 (x0 : Int) (x1 : Int) (x2 : Int) (n3 : Nat) (g3 : Nat → Nat → Int) (x4 : Int) (x5 : Int) (x6 : Int) : Tr (Ex × List At); OL_rfind_2 (l) := O_rfind_2 (aI l 0) (aI l 1) (aI l 2) (aRn l 3) (aRg l 3) (aI l 4) (aI l 5) (aI l 6); μ_rfind_2 : List At → Nat; rd_rfind_2 : ∀ l r, (OL_rfind_2 l).val = some r → RoundA BL_rfind_2 OL_rfind_2 μ_rfind_2 l r -/

end Go.Proofs.Ytimdpdkgiibndaa.G
end

/-
  The reference's loops: what is kept of the ways, and the first way of a key.
-/
section
namespace Go.Proofs.Ytimdpdkgiibndaa.G
open Go Go.AM Go.Proofs

/-- The ways of other keys, laid behind what there is. -/
def kaL (g : Nat → Nat → Int) (s p : Int) : Nat → Nat → Nat → (Nat → Nat → Int) → Nat × (Nat → Nat → Int)
  | 0, _, n, h => (n, h)
  | k + 1, i, n, h => bif hit g s p i then kaL g s p k (i + 1) n h else kaL g s p k (i + 1) (n + 1) (appG h n (rowsF [[g i 0, g i 1, g i 2, g i 3, g i 4]]))

noncomputable def O_radd_3 (x0 x1 x2 : Int) (n3 : Nat) (g3 : Nat → Nat → Int) (x4 x5 x6 : Int) (n7 : Nat) (g7 : Nat → Nat → Int) : Tr (Ex × List At) :=
  .br 0 (pdec (0 ≤ x2 ∧ n3 ≤ 1000 ∧ (n7 : Int) ≤ x2))
    (.ok (.exit 0, [.i x0, .i x1, .r n3 g3, .i x4, .i x5, .i x6, .r (kaL g3 x0 x1 (n3 - x2.toNat) x2.toNat n7 g7).1 (kaL g3 x0 x1 (n3 - x2.toNat) x2.toNat n7 g7).2])) .no
noncomputable def OL_radd_3 (l : List At) : Tr (Ex × List At) := O_radd_3 (aI l 0) (aI l 1) (aI l 2) (aRn l 3) (aRg l 3) (aI l 4) (aI l 5) (aI l 6) (aRn l 7) (aRg l 7)
def μ_radd_3 (l : List At) : Nat := ((aRn l 3 : Int) - aI l 2).toNat

theorem rd_radd_3 : ∀ l r, (OL_radd_3 l).val = some r → RoundS BL_radd_3 OL_radd_3 μ_radd_3 l r := by
  intro l r hh
  unfold OL_radd_3 at hh
  obtain ⟨hc, h⟩ := guard_val hh
  clear hh
  obtain ⟨c0, c1, c2⟩ := of_pdec hc
  unfold RoundS BL_radd_3 B_radd_3
  generalize hx0 : aI l 0 = x0 at *
  generalize hx1 : aI l 1 = x1 at *
  generalize hx2 : aI l 2 = x2 at *
  generalize hn3 : aRn l 3 = n3 at *
  generalize hg3 : aRg l 3 = g3 at *
  generalize hn7 : aRn l 7 = n7 at *
  generalize hg7 : aRg l 7 = g7 at *
  refine brD (fun h1 => ?_) (fun h1 => ?_)
  · have e1 : n3 - x2.toNat = (n3 - (x2 + 1).toNat) + 1 := by omega
    have e2 : x2.toNat + 1 = (x2 + 1).toNat := by omega
    have hw : IntKind.i64.wrap (x2 + 1) = x2 + 1 := wrap_i64 (by omega) (by omega)
    have hμ : ((n3 : Int) - (x2 + 1)).toNat < μ_radd_3 l := by unfold μ_radd_3; rw [hx2, hn3]; omega
    have hin : within x2 n3 = true := by simp only [within, Bool.and_eq_true, decide_eq_true_eq]; omega
    have q1 : 0 ≤ x2 + 1 ∧ n3 ≤ 1000 ∧ (n7 : Int) ≤ x2 + 1 := ⟨by omega, c1, by omega⟩
    have q2 : 0 ≤ x2 + 1 ∧ n3 ≤ 1000 ∧ ((n7 + 1 : Nat) : Int) ≤ x2 + 1 := ⟨by omega, c1, by omega⟩
    rw [e1, kaL, e2] at h
    rw [hw]
    have other : hit g3 x0 x1 x2.toNat = false → (Tr.ok (Ex.normal, [At.i x0, At.i x1, At.i (x2 + 1), At.r n3 g3, At.i (aI l 4), At.i (aI l 5), At.i (aI l 6), At.r (n7 + 1) (appG g7 n7 (rowsF [[g3 x2.toNat 0, g3 x2.toNat 1, g3 x2.toNat 2, g3 x2.toNat 3, g3 x2.toNat 4]]))])).sat fun p => (p.1 = .normal ∧ ∃ l2 r', AtsEq p.2 l2 ∧ μ_radd_3 l2 < μ_radd_3 l ∧ (OL_radd_3 l2).val = some r' ∧ r'.1 = r.1 ∧ AtsEq r'.2 r.2) ∨ (p.1 ≠ .normal ∧ r.1 = p.1 ∧ AtsEq p.2 r.2) := by
      intro hf
      rw [hf] at h
      exact on_ _ r (AtsEq.refl _) hμ ((br_t (g := 0) (pdec_yes q2)).trans h) rfl (AtsEq.refl _)
    refine brT hin (brC (fun h2 => ?_) (fun h2 => ?_))
    · refine brT hin (brT (decide_eq_true (by omega)) (other (hit_not.2 fun hh => ?_)))
      rw [bne_iff_ne] at h2
      exact h2 hh.1
    · have h2' : g3 x2.toNat 0 = x0 := by simpa using h2
      refine brT hin (brC (fun h3 => ?_) (fun h3 => ?_))
      · refine brT hin (brT (decide_eq_true (by omega)) (other (hit_not.2 fun hh => ?_)))
        rw [bne_iff_ne] at h3
        exact h3 hh.2
      · have h3' : g3 x2.toNat 1 = x1 := by simpa using h3
        rw [hit_iff.2 ⟨h2', h3'⟩] at h
        exact on_ _ r (AtsEq.refl _) hμ ((br_t (g := 0) (pdec_yes q1)).trans h) rfl (AtsEq.refl _)
  · have e : n3 - x2.toNat = 0 := by omega
    rw [e, kaL] at h
    have hv := val_ok h
    subst hv
    exact out_ (by simp) rfl (AtsEq.refl _)

noncomputable def O_rfind_2 (x0 x1 x2 : Int) (n3 : Nat) (g3 : Nat → Nat → Int) (x4 x5 x6 : Int) : Tr (Ex × List At) :=
  .br 0 (pdec (0 ≤ x2 ∧ n3 ≤ 4611686018427387904))
    (.br 0 (decide (findI (hit g3 x0 x1) (n3 - x2.toNat) x2.toNat < n3))
      (.ok (.ret, [.b true, .i (g3 (findI (hit g3 x0 x1) (n3 - x2.toNat) x2.toNat) 2), .i (g3 (findI (hit g3 x0 x1) (n3 - x2.toNat) x2.toNat) 3), .i (g3 (findI (hit g3 x0 x1) (n3 - x2.toNat) x2.toNat) 4)])) (.ok (.exit 0, [.i x4, .i x5, .i x6]))) .no
noncomputable def OL_rfind_2 (l : List At) : Tr (Ex × List At) := O_rfind_2 (aI l 0) (aI l 1) (aI l 2) (aRn l 3) (aRg l 3) (aI l 4) (aI l 5) (aI l 6)
def μ_rfind_2 (l : List At) : Nat := ((aRn l 3 : Int) - aI l 2).toNat

theorem rd_rfind_2 : ∀ l r, (OL_rfind_2 l).val = some r → RoundS BL_rfind_2 OL_rfind_2 μ_rfind_2 l r := by
  intro l r hh
  unfold OL_rfind_2 at hh
  obtain ⟨hc, h⟩ := guard_val hh
  clear hh
  obtain ⟨c0, c1⟩ := of_pdec hc
  unfold RoundS BL_rfind_2 B_rfind_2
  generalize hx0 : aI l 0 = x0 at *
  generalize hx1 : aI l 1 = x1 at *
  generalize hx2 : aI l 2 = x2 at *
  generalize hn3 : aRn l 3 = n3 at *
  generalize hg3 : aRg l 3 = g3 at *
  refine brD (fun h1 => ?_) (fun h1 => ?_)
  · have e1 : n3 - x2.toNat = (n3 - (x2 + 1).toNat) + 1 := by omega
    have e2 : x2.toNat + 1 = (x2 + 1).toNat := by omega
    have hw : IntKind.i64.wrap (x2 + 1) = x2 + 1 := wrap_i64 (by omega) (by omega)
    have hμ : ((n3 : Int) - (x2 + 1)).toNat < μ_rfind_2 l := by unfold μ_rfind_2; rw [hx2, hn3]; omega
    have hin : within x2 n3 = true := by simp only [within, Bool.and_eq_true, decide_eq_true_eq]; omega
    have q1 : 0 ≤ x2 + 1 ∧ n3 ≤ 4611686018427387904 := ⟨by omega, c1⟩
    rw [hw]
    have goes : hit g3 x0 x1 x2.toNat = false → (Tr.ok (Ex.normal, [At.i x0, At.i x1, At.i (x2 + 1), At.r n3 g3, At.i (aI l 4), At.i (aI l 5), At.i (aI l 6)])).sat fun p => (p.1 = .normal ∧ ∃ l2 r', AtsEq p.2 l2 ∧ μ_rfind_2 l2 < μ_rfind_2 l ∧ (OL_rfind_2 l2).val = some r' ∧ r'.1 = r.1 ∧ AtsEq r'.2 r.2) ∨ (p.1 ≠ .normal ∧ r.1 = p.1 ∧ AtsEq p.2 r.2) := by
      intro hf
      rw [findI_step (p := hit g3 x0 x1) e1 hf, e2] at h
      exact on_ _ r (AtsEq.refl _) hμ ((br_t (g := 0) (pdec_yes q1)).trans h) rfl (AtsEq.refl _)
    refine brT hin (brC (fun h2 => ?_) (fun h2 => ?_))
    · have h2' : g3 x2.toNat 0 = x0 := by simpa using h2
      refine brT hin (brC (fun h3 => ?_) (fun h3 => ?_))
      · have h3' : g3 x2.toNat 1 = x1 := by simpa using h3
        rw [findI_hit (p := hit g3 x0 x1) (m := n3 - x2.toNat) (i := x2.toNat) (by omega) (hit_iff.2 ⟨h2', h3'⟩), br_t (decide_eq_true (by omega))] at h
        have hv := val_ok h
        subst hv
        exact brT hin (out_ (by simp) rfl (AtsEq.refl _))
      · refine goes (hit_not.2 fun hh => ?_)
        rw [beq_eq_false_iff_ne] at h3
        exact h3 hh.2
    · refine goes (hit_not.2 fun hh => ?_)
      rw [beq_eq_false_iff_ne] at h2
      exact h2 hh.1
  · have e : n3 - x2.toNat = 0 := by omega
    rw [e, findI, br_f (decide_eq_false (by omega))] at h
    have hv := val_ok h
    subst hv
    exact out_ (by simp) rfl (AtsEq.refl _)
end Go.Proofs.Ytimdpdkgiibndaa.G
end

/-
  What functions of the seat compute, printed by a program from the explorer.
-/
section
namespace Go.Proofs.Ytimdpdkgiibndaa.G
open Go Go.AM Go.Proofs
theorem f_radd_3 : LoopF Try.prog 2 (loopAt Try.f13 3) (loopFn 2 lsh_radd_3 xs_radd_3 OL_radd_3) :=
  loop_sat (sy := y_radd_3) (fuel := 100) (Lp := noLoops) o_shown mixed (loopsOK_at (noLoops_ok _) 3) rfl eB_radd_3 rd_radd_3
noncomputable def Lp_radd_3 : Loops := Loops.set noLoops 3 (loopFn 2 lsh_radd_3 xs_radd_3 OL_radd_3)
theorem lk_radd_3 : LoopsFn Try.prog 2 Lp_radd_3 Try.f13 := loopsFn_set (noLoops_ok _) (by kernel_rfl) f_radd_3

/-! ### radd -/

noncomputable def ish_radd : FSh := ⟨[.v false [.p 0 0], .v false [.k (.n .u64)], .v false [.k (.n .u64)], .v true [.k (.n .i64), .k (.n .i64), .k (.n .i64)]], [.cells [.sw 1 5], .rows [.n .u64, .n .u64, .n .i64, .n .i64, .n .i64] true]⟩
noncomputable def osh_radd : FSh := ⟨[.tup []], [.cells [.sw 2 5], .no, .rows [.n .u64, .n .u64, .n .i64, .n .i64, .n .i64] true]⟩
noncomputable def radd_c17 (x0 : Int) (x1 : Int) (n5 : Nat) (g5 : Nat → Nat → Int) : Bool := Decidable.decide ((0 : Nat) + (Int.toNat (↑(Go.Proofs.Ytimdpdkgiibndaa.G.kaL g5 x0 x1 (n5 - (0 : Nat)) (0 : Nat) (0 : Nat) fun (x x_1 : Nat) => (0 : Int)).fst : Int) - (1 : Nat)) + (1 : Nat) ≤ (1073741824 : Nat))
noncomputable def radd_c18 (x0 : Int) (x1 : Int) (n5 : Nat) (g5 : Nat → Nat → Int) : Bool := Decidable.decide ((0 : Nat) + (Int.toNat (↑(Go.Proofs.Ytimdpdkgiibndaa.G.kaL g5 x0 x1 (n5 - (0 : Nat)) (0 : Nat) (0 : Nat) fun (x x_1 : Nat) => (0 : Int)).fst : Int) - (1 : Nat)) ≤ (1073741824 : Nat))
noncomputable def radd_c21 (x0 : Int) (x1 : Int) (n5 : Nat) (g5 : Nat → Nat → Int) : Bool := Decidable.decide ((Go.Proofs.Ytimdpdkgiibndaa.G.kaL g5 x0 x1 (n5 - (0 : Nat)) (0 : Nat) (0 : Nat) fun (_ _ : Nat) => (0 : Int)).fst + (1 : Nat) ≤ (1073741824 : Nat))
noncomputable def radd_c22 (x0 : Int) (x1 : Int) (n5 : Nat) (g5 : Nat → Nat → Int) : Bool := Decidable.decide ((↑(Go.Proofs.Ytimdpdkgiibndaa.G.kaL g5 x0 x1 (n5 - (0 : Nat)) (0 : Nat) (0 : Nat) fun (x x_1 : Nat) => (0 : Int)).fst : Int) ≥ (8 : Int))
noncomputable def T_radd (x0 : Int) (x1 : Int) (x2 : Int) (x3 : Int) (x4 : Int) (n5 : Nat) (g5 : Nat → Nat → Int) : Tr (List At) :=
 .br 0 (Go.Proofs.Ytimdpdkgiibndaa.G.pdec ((0 : Int) ≤ (0 : Int) ∧ n5 ≤ (1000 : Nat) ∧ (0 : Int) ≤ (0 : Int)))
 (.br 53 ((radd_c22 x0 x1 n5 g5))
 (.br 56 (Bool.true && Decidable.decide ((1 : Int) ≤ (↑(Go.Proofs.Ytimdpdkgiibndaa.G.kaL g5 x0 x1 (n5 - (0 : Nat)) (0 : Nat) (0 : Nat) fun (x x_1 : Nat) => (0 : Int)).fst : Int)))
 (.br 57 ((radd_c18 x0 x1 n5 g5))
 (.br 66 ((radd_c17 x0 x1 n5 g5))
 (.ok [(.r ((0 : Nat) + (Int.toNat (↑(Go.Proofs.Ytimdpdkgiibndaa.G.kaL g5 x0 x1 (n5 - (0 : Nat)) (0 : Nat) (0 : Nat) fun (x x_1 : Nat) => (0 : Int)).fst : Int) - (1 : Nat)) + (1 : Nat)) (Go.AM.appG (Go.AM.appG (fun (_ _ : Nat) => (0 : Int)) (0 : Nat) fun (j c : Nat) => (Go.Proofs.Ytimdpdkgiibndaa.G.kaL g5 x0 x1 (n5 - (0 : Nat)) (0 : Nat) (0 : Nat) fun (_ _ : Nat) => (0 : Int)).snd ((1 : Nat) + j) c) ((0 : Nat) + (Int.toNat (↑(Go.Proofs.Ytimdpdkgiibndaa.G.kaL g5 x0 x1 (n5 - (0 : Nat)) (0 : Nat) (0 : Nat) fun (x x_1 : Nat) => (0 : Int)).fst : Int) - (1 : Nat))) (Go.AM.rowsF [[x0, x1, x2, (0 : Int), x4]])))])
 (.no))
 (.no))
 (.no))
 (.br 66 ((radd_c21 x0 x1 n5 g5))
 (.ok [(.r ((Go.Proofs.Ytimdpdkgiibndaa.G.kaL g5 x0 x1 (n5 - (0 : Nat)) (0 : Nat) (0 : Nat) fun (_ _ : Nat) => (0 : Int)).fst + (1 : Nat)) (Go.AM.appG (Go.Proofs.Ytimdpdkgiibndaa.G.kaL g5 x0 x1 (n5 - (0 : Nat)) (0 : Nat) (0 : Nat) fun (_ _ : Nat) => (0 : Int)).snd (Go.Proofs.Ytimdpdkgiibndaa.G.kaL g5 x0 x1 (n5 - (0 : Nat)) (0 : Nat) (0 : Nat) fun (_ _ : Nat) => (0 : Int)).fst (Go.AM.rowsF [[x0, x1, x2, (0 : Int), x4]])))])
 (.no)))
 (.no)
noncomputable def y_radd : Nat → Option Nat := (syOf3 [53, 56, 57, 66] [] [])
noncomputable def TL_radd (l : List At) : Tr (List At) := T_radd (aI l 0) (aI l 1) (aI l 2) (aI l 3) (aI l 4) (aRn l 5) (aRg l 5)
theorem e_radd (l : List At) : (call Try.prog Γ_shown y_radd Lp_radd_3 100 Try.f13 (mkV ish_radd l) (mkH ish_radd l)).bind (leafO 2 osh_radd) = TL_radd l := by kernel_rfl
noncomputable def F_radd : List At → Tr (List At) := TL_radd
theorem s_radd : SpecF Try.prog 13 (.eff (locF ish_radd osh_radd F_radd)) :=
  spec_loc (sy := y_radd) (fuel := 100) (Lp := Lp_radd_3) o_shown mixed ⟨Try.func13, by kernel_rfl, by kernel_rfl⟩ ish_radd osh_radd lk_radd_3 (hT_ways e_radd)
noncomputable def Γ_radd : Specs := upd Γ_shown 13 (.eff (locF ish_radd osh_radd F_radd))
theorem o_radd : SpecOK Try.prog Γ_radd := SpecOK.upd o_shown s_radd

end Go.Proofs.Ytimdpdkgiibndaa.G
end

/-
  What functions of the seat compute, printed by a program from the explorer.
-/
section
namespace Go.Proofs.Ytimdpdkgiibndaa.G
open Go Go.AM Go.Proofs
theorem f_rfind_2 : LoopF Try.prog 2 (loopAt Try.f15 2) (loopFn 2 lsh_rfind_2 xs_rfind_2 OL_rfind_2) :=
  loop_sat (sy := y_rfind_2) (fuel := 100) (Lp := noLoops) o_shown mixed (loopsOK_at (noLoops_ok _) 2) rfl eB_rfind_2 rd_rfind_2
noncomputable def Lp_rfind_2 : Loops := Loops.set noLoops 2 (loopFn 2 lsh_rfind_2 xs_rfind_2 OL_rfind_2)
theorem lk_rfind_2 : LoopsFn Try.prog 2 Lp_rfind_2 Try.f15 := loopsFn_set (noLoops_ok _) (by kernel_rfl) f_rfind_2

/-! ### rfind -/

noncomputable def ish_rfind : FSh := ⟨[.v false [.p 0 0], .v false [.k (.n .u64)], .v false [.k (.n .u64)]], [.roc [.sw 1 5], .rows [.n .u64, .n .u64, .n .i64, .n .i64, .n .i64] false]⟩
noncomputable def osh_rfind : FSh := ⟨[.tup [(true, [.k (.n .i64), .k (.n .i64), .k (.n .i64)]), (false, [.k .b])]], [.no, .no]⟩
noncomputable def rfind_c7 (x0 : Int) (x1 : Int) (n2 : Nat) (g2 : Nat → Nat → Int) : Bool := Decidable.decide (Go.Proofs.Ytimdpdkgiibndaa.G.findI (Go.Proofs.Ytimdpdkgiibndaa.G.hit g2 x0 x1) (n2 - (0 : Nat)) (0 : Nat) < n2)
noncomputable def T_rfind (x0 : Int) (x1 : Int) (n2 : Nat) (g2 : Nat → Nat → Int) : Tr (List At) :=
 .br 0 (Go.Proofs.Ytimdpdkgiibndaa.G.pdec ((0 : Int) ≤ (0 : Int) ∧ n2 ≤ (4611686018427387904 : Nat)))
 (.br 0 ((rfind_c7 x0 x1 n2 g2))
 (.ok [(.i (g2 (Go.Proofs.Ytimdpdkgiibndaa.G.findI (Go.Proofs.Ytimdpdkgiibndaa.G.hit g2 x0 x1) (n2 - (0 : Nat)) (0 : Nat)) (2 : Nat))), (.i (g2 (Go.Proofs.Ytimdpdkgiibndaa.G.findI (Go.Proofs.Ytimdpdkgiibndaa.G.hit g2 x0 x1) (n2 - (0 : Nat)) (0 : Nat)) (3 : Nat))), (.i (g2 (Go.Proofs.Ytimdpdkgiibndaa.G.findI (Go.Proofs.Ytimdpdkgiibndaa.G.hit g2 x0 x1) (n2 - (0 : Nat)) (0 : Nat)) (4 : Nat))), (.b (Bool.true))])
 (.ok [(.i ((0 : Int))), (.i ((0 : Int))), (.i ((0 : Int))), (.b (Bool.false))]))
 (.no)
noncomputable def y_rfind : Nat → Option Nat := (syOf3 [] [] [])
noncomputable def TL_rfind (l : List At) : Tr (List At) := T_rfind (aI l 0) (aI l 1) (aRn l 2) (aRg l 2)
theorem e_rfind (l : List At) : (call Try.prog Γ_shown y_rfind Lp_rfind_2 100 Try.f15 (mkV ish_rfind l) (mkH ish_rfind l)).bind (leafO 2 osh_rfind) = TL_rfind l := by kernel_rfl
noncomputable def F_rfind : List At → Tr (List At) := TL_rfind
theorem s_rfind : SpecF Try.prog 15 (.read (locR ish_rfind osh_rfind F_rfind)) :=
  spec_read (sy := y_rfind) (fuel := 100) (Lp := Lp_rfind_2) o_shown mixed ⟨Try.func15, by kernel_rfl, by kernel_rfl⟩ ish_rfind osh_rfind (by kernel_rfl) lk_rfind_2 (hT_ways e_rfind)
noncomputable def Γ_rfind : Specs := upd Γ_shown 15 (.read (locR ish_rfind osh_rfind F_rfind))
theorem o_rfind : SpecOK Try.prog Γ_rfind := SpecOK.upd o_shown s_rfind

end Go.Proofs.Ytimdpdkgiibndaa.G
end

/-
  The reference's calls, in few words.
-/
section
namespace Go.Proofs.Ytimdpdkgiibndaa.G
open Go Go.AM Go.Proofs

theorem kaL_le (g : Nat → Nat → Int) (s p : Int) : ∀ (k i n : Nat) (h : Nat → Nat → Int), (kaL g s p k i n h).1 ≤ n + k
  | 0, _, _, _ => Nat.le_refl _
  | k + 1, i, n, h => by
    rw [kaL]
    cases hit g s p i with
    | true => have := kaL_le g s p k (i + 1) n h; simp only [cond_true]; omega
    | false => have := kaL_le g s p k (i + 1) (n + 1) (appG h n (rowsF [[g i 0, g i 1, g i 2, g i 3, g i 4]])); simp only [cond_false]; omega

def ka (n : Nat) (g : Nat → Nat → Int) (s p : Int) : Nat × (Nat → Nat → Int) := kaL g s p n 0 0 (fun _ _ => 0)
def raM (n : Nat) (g : Nat → Nat → Int) (s p : Int) : Nat := bif decide (8 ≤ (ka n g s p).1) then (ka n g s p).1 - 1 else (ka n g s p).1
def raH (n : Nat) (g : Nat → Nat → Int) (s p : Int) : Nat → Nat → Int := bif decide (8 ≤ (ka n g s p).1) then (fun j c => (ka n g s p).2 (1 + j) c) else (ka n g s p).2
def raN (n : Nat) (g : Nat → Nat → Int) (s p : Int) : Nat := raM n g s p + 1
def raG (n : Nat) (g : Nat → Nat → Int) (s p a c : Int) : Nat → Nat → Int := appG (raH n g s p) (raM n g s p) (rowsF [[s, p, a, 0, c]])

theorem t_radd {x0 x1 x2 x3 x4 : Int} {n : Nat} {g : Nat → Nat → Int} (h : n ≤ 8) :
    (T_radd x0 x1 x2 x3 x4 n g).sat fun r => AtsEq r [.r (raN n g x0 x1) (raG n g x0 x1 x2 x4)] := by
  have hk := kaL_le g x0 x1 n 0 0 (fun _ _ => 0)
  unfold T_radd radd_c22 radd_c21 radd_c18 radd_c17 raN raG raM raH ka
  rw [Nat.sub_zero]
  generalize kaL g x0 x1 n 0 0 (fun _ _ => 0) = q at *
  refine brT (pdec_yes ⟨Int.le_refl _, by omega, Int.le_refl _⟩) (brD (fun h8 => ?_) (fun h8 => ?_))
  · refine brT ?_ (brT ?_ (brT ?_ (Tr.sat_ok.2 (atsEq_cons (atEq_r ?_ fun k _ c => ?_) atsEq_nil))))
    · simp only [Bool.true_and, decide_eq_true_eq]; omega
    · simp only [decide_eq_true_eq]; omega
    · simp only [decide_eq_true_eq]; omega
    · rw [decide_eq_true (by omega), cond_true]; omega
    · have e1 : appG (fun (_ _ : Nat) => (0 : Int)) 0 (fun j c => q.2 (1 + j) c) = fun j c => q.2 (1 + j) c := by funext i c; simp [appG]
      have e2 : 0 + ((q.1 : Int).toNat - 1) = q.1 - 1 := by omega
      rw [decide_eq_true (by omega), cond_true, cond_true, e1, e2]
  · refine brT ?_ (Tr.sat_ok.2 (atsEq_cons (atEq_r ?_ fun k _ c => ?_) atsEq_nil))
    · simp only [decide_eq_true_eq]; omega
    · rw [decide_eq_false (by omega), cond_false]
    · rw [decide_eq_false (by omega), cond_false, cond_false]

noncomputable def F2_radd (l : List At) : Tr (List At) := .br 0 (decide (aRn l 5 ≤ 8)) (.ok [.r (raN (aRn l 5) (aRg l 5) (aI l 0) (aI l 1)) (raG (aRn l 5) (aRg l 5) (aI l 0) (aI l 1) (aI l 2) (aI l 4))]) .no
theorem s2_radd : SpecF Try.prog 13 (.eff (locF ish_radd osh_radd F2_radd)) :=
  spec_loc (sy := y_radd) (fuel := 100) (Lp := Lp_radd_3) o_shown mixed ⟨Try.func13, by kernel_rfl, by kernel_rfl⟩ ish_radd osh_radd lk_radd_3 (fun l r h => by
    obtain ⟨hc, h⟩ := guard_val h
    have := val_ok h
    subst this
    obtain ⟨r', h1, h2⟩ := t_radd (x0 := aI l 0) (x1 := aI l 1) (x2 := aI l 2) (x3 := aI l 3) (x4 := aI l 4) (g := aRg l 5) (of_decide_eq_true hc)
    exact ⟨r', (congrArg Tr.val (e_radd l)).trans h1, h2⟩)

theorem t_rfind {x0 x1 : Int} {n : Nat} {g : Nat → Nat → Int} (h : n ≤ 4611686018427387904) :
    (T_rfind x0 x1 n g).sat fun r => r = [.i (fndI n g x0 x1 2), .i (fndI n g x0 x1 3), .i (fndI n g x0 x1 4), .b (fnd n g x0 x1)] := by
  unfold T_rfind rfind_c7 fndI
  rw [Nat.sub_zero]
  refine brT (pdec_yes ⟨Int.le_refl _, h⟩) ?_
  show (Tr.br 0 (fnd n g x0 x1) _ _).sat _
  cases hf : fnd n g x0 x1 with
  | true => exact brT rfl (Tr.sat_ok.2 rfl)
  | false => exact brF rfl (Tr.sat_ok.2 rfl)
theorem s2_rfind : SpecF Try.prog 15 (.read (locR ish_rfind osh_rfind F2_find)) :=
  spec_read (sy := y_rfind) (fuel := 100) (Lp := Lp_rfind_2) o_shown mixed ⟨Try.func15, by kernel_rfl, by kernel_rfl⟩ ish_rfind osh_rfind (by kernel_rfl) lk_rfind_2 (fun l r h => by
    obtain ⟨hc, h⟩ := guard_val h
    have := val_ok h
    subst this
    obtain ⟨r', h1, h2⟩ := t_rfind (x0 := aI l 0) (x1 := aI l 1) (g := aRg l 2) (of_decide_eq_true hc)
    exact ⟨r', (congrArg Tr.val (e_rfind l)).trans h1, by rw [h2]; exact AtsEq.refl _⟩)
noncomputable def Γ_RF : Specs := upd (upd Γ_shown 13 (.eff (locF ish_radd osh_radd F2_radd))) 15 (.read (locR ish_rfind osh_rfind F2_find))
theorem o_RF : SpecOK Try.prog Γ_RF := SpecOK.upd (SpecOK.upd o_shown s2_radd) s2_rfind
end Go.Proofs.Ytimdpdkgiibndaa.G
end

/-
  A copy of a slice: nil of nil, else a new row.
-/
section
namespace Go.Proofs.Ytimdpdkgiibndaa.G
open Go Go.AM Go.Proofs

theorem appG_zero {g0 src : Nat → Nat → Int} : appG g0 0 src = src := by funext i c; simp [appG]

def ish_cl : FSh := ⟨[.v false [.vw 0 5]], [.rows [.n .u64, .n .u64, .n .i64, .n .i64, .n .i64] false]⟩
def osh_cl : FSh := ⟨[.v false [.sw 1 5]], [.no, .rows [.n .u64, .n .u64, .n .i64, .n .i64, .n .i64] true]⟩
def F_cl (l : List At) : Tr (List At) := .br 0 (decide (aRn l 0 ≤ 1073741824)) (.ok [.r (aRn l 0) (aRg l 0)]) .no
theorem eZ_cl (l : List At) : (call Try.prog Γ_RF (syOf3 [7] [] []) noLoops 100 Try.f18 [.v (.s (.slz 0 5 0 (aRn l 0)))] (mkH ish_cl l)).bind (leafO 1 osh_cl) =
    .br 7 (decide (0 + aRn l 0 ≤ 1073741824)) (.ok [.r (0 + aRn l 0) (appG (fun _ _ => 0) 0 fun j c => aRg l 0 (0 + j) c)]) .no := by kernel_rfl
theorem eN_cl (l : List At) : (call Try.prog Γ_RF (syOf3 [7] [] []) noLoops 100 Try.f18 [.v (.s .slnil)] (mkH ish_cl l)).bind (leafO 1 osh_cl) = .ok [.r 0 fun _ _ => 0] := by kernel_rfl
theorem s_cl : SpecF Try.prog 18 (.eff (locF ish_cl osh_cl F_cl)) := by
  refine spec_fork (sy := syOf3 [7] [] []) (sy' := syOf3 [7] [] []) (fuel := 100) (Lp := noLoops) o_RF mixed ⟨Try.func18, by kernel_rfl, by kernel_rfl⟩ 5 [.n .u64, .n .u64, .n .i64, .n .i64, .n .i64] osh_cl (noLoops_ok _) (fun l r h => ?_) (fun l r h h0 => ?_)
  · obtain ⟨hc, h⟩ := guard_val h
    have hr := val_ok h
    subst hr
    refine ⟨_, by rw [show mkH ⟨[.v false [.vw 0 5]], [.rows [.n .u64, .n .u64, .n .i64, .n .i64, .n .i64] false]⟩ l = mkH ish_cl l from rfl, eZ_cl l]; exact br_t (by rw [Nat.zero_add]; exact hc), ?_⟩
    exact atsEq_cons (atEq_r (Nat.zero_add _) (fun i _ c => by rw [appG_zero, Nat.zero_add])) atsEq_nil
  · obtain ⟨hc, h⟩ := guard_val h
    have hr := val_ok h
    subst hr
    refine ⟨_, by rw [show mkH ⟨[.v false [.vw 0 5]], [.rows [.n .u64, .n .u64, .n .i64, .n .i64, .n .i64] false]⟩ l = mkH ish_cl l from rfl, eN_cl l]; rfl, ?_⟩
    exact atsEq_cons (atEq_r h0.symm (fun i hi c => by omega)) atsEq_nil
noncomputable def Γ_cl : Specs := upd Γ_RF 18 (.eff (locF ish_cl osh_cl F_cl))
theorem o_cl : SpecOK Try.prog Γ_cl := SpecOK.upd o_RF s_cl
end Go.Proofs.Ytimdpdkgiibndaa.G
end
