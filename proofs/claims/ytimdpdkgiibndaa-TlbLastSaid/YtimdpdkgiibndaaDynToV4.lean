/-
  Calls of closures: all of them only read here (the first law, which nothing calls, stands for the flag).
-/
import Derived.Test.YtimdpdkgiibndaaRows
import Derived.Test.YtimdpdkgiibndaaAn5ToAnR
import Derived.Test.YtimdpdkgiibndaaAmEToAn4
import Derived.KernelRfl
section
namespace Go.Proofs.Ytimdpdkgiibndaa.G
open Go Go.AM Go.Proofs

theorem mixed : Try.prog.follows .mixedOrders = true := by kernel_rfl
def Γ_dyn : Specs := upd noSpecs 3 (.read fun _ _ => .no)
theorem s_dyn : SpecF Try.prog 3 (.read fun _ _ => .no) := by
  have h : fnOk Try.prog 3 Try.f3 := ⟨Try.func3, by kernel_rfl, by kernel_rfl⟩
  refine .inr ⟨⟨Try.f3, h⟩, fun φ H w targs args tv H' happ _ _ => ?_, fun _ _ _ _ h => by simp [Tr.val] at h⟩
  simp [Spec.app, Tr.val_bind, Tr.val] at happ
theorem o_dyn : SpecOK Try.prog Γ_dyn := SpecOK.upd noSpecs_ok s_dyn
end Go.Proofs.Ytimdpdkgiibndaa.G
end

/-
  What functions of the seat compute, printed by a program from the explorer.
-/
section
namespace Go.Proofs.Ytimdpdkgiibndaa.G
open Go Go.AM Go.Proofs
/-! ### isKey -/

def ish_isKey : FSh := ⟨[.v true [.k (.n .u64), .k (.n .u64), .k (.n .i64), .k (.n .i64), .k (.n .i64)], .v false [.p 0 0]], [.roc [.k (.n .u64), .k (.n .u64)]]⟩
def osh_isKey : FSh := ⟨[.v false [.k .b]], [.no]⟩
def T_isKey (x0 : Int) (x1 : Int) (x2 : Int) (x3 : Int) (x4 : Int) (x5 : Int) (x6 : Int) : Tr (List At) :=
 .ok [(.b (x0 == x5 && (x1 == x6 && true)))]
def y_isKey : Nat → Option Nat := (syOf3 [] [] [])
def TL_isKey (l : List At) : Tr (List At) := T_isKey (aI l 0) (aI l 1) (aI l 2) (aI l 3) (aI l 4) (aI l 5) (aI l 6)
theorem e_isKey (l : List At) : (call Try.prog Γ_dyn y_isKey noLoops 100 Try.f20 (mkV ish_isKey l) (mkH ish_isKey l)).bind (leafO 1 osh_isKey) = TL_isKey l := by kernel_rfl
def r_isKey_0 (x0 : Int) (x1 : Int) (x5 : Int) (x6 : Int) : Bool :=
  x0 == x5 && (x1 == x6 && true)
def F_isKey : List At → Tr (List At) := fun l => .ok [.b (r_isKey_0 (aI l 0) (aI l 1) (aI l 5) (aI l 6))]
theorem s_isKey : SpecF Try.prog 20 (.read (locR ish_isKey osh_isKey F_isKey)) :=
  spec_read (sy := y_isKey) (fuel := 100) (Lp := noLoops) o_dyn mixed ⟨Try.func20, by kernel_rfl, by kernel_rfl⟩ ish_isKey osh_isKey (by kernel_rfl) (noLoops_ok _) (hT_merged [.b] e_isKey (fun l => by kernel_rfl) (fun l => by kernel_rfl))
def Γ_isKey : Specs := upd Γ_dyn 20 (.read (locR ish_isKey osh_isKey F_isKey))
theorem o_isKey : SpecOK Try.prog Γ_isKey := SpecOK.upd o_dyn s_isKey

/-! ### the loop at 2 of idxF -/

def lsh_idxF_2 : FSh := ⟨[.v false [.sq 0 5], .v false [.fn 20 [(1, 0)]], .any, .any, .any, .any, .any, .v false [.k (.n .i64)], .v false [.k (.n .i64)], .any, .any, .any, .any, .any, .any, .any, .any, .any, .any], [.rows [.n .u64, .n .u64, .n .i64, .n .i64, .n .i64] false, .roc [.k (.n .u64), .k (.n .u64)]]⟩
def xsh_idxF_2_0 : FSh := ⟨[.any, .any, .any, .any, .any, .any, .any, .any, .any, .any, .any, .any, .any, .any, .any, .any, .any, .any, .any], [.no, .no]⟩
def xsh_idxF_2_1 : FSh := ⟨[.any, .any, .any, .any, .v false [.k (.n .i64)], .any, .any, .any, .any, .any, .any, .any, .any, .any, .any, .any, .any, .any, .any], [.no, .no]⟩
def xs_idxF_2 : Exs := fun e => match e with
  | .normal => some lsh_idxF_2
  | .exit n => (match Nat.beq n 0 with | true => some xsh_idxF_2_0 | false => none)
  | .ret => some xsh_idxF_2_1
def B_idxF_2 (x0 : Nat) (x1 : Nat) (x2 : Int) (x3 : Int) (n4 : Nat) (g4 : Nat → Nat → Int) (x5 : Int) (x6 : Int) : Tr (Ex × List At) :=
 .br 9 (decide (x3 < x2))
 (.br 14 (within x3 x1)
 (.br 16 (r_isKey_0 (g4 (x0 + Int.toNat x3) (0 : Nat)) (g4 (x0 + Int.toNat x3) (1 : Nat)) x5 x6)
 (.ok (.ret, [(.i (x3))]))
 (.ok (.normal, [(.n (x0)), (.n (x1)), (.i (x2)), (.i (IntKind.wrap IntKind.i64 (x3 + (1 : Int)))), (.r (n4) (g4)), (.i (x5)), (.i (x6))])))
 (.no))
 (.ok (.exit 0, []))
def y_idxF_2 : Nat → Option Nat := (syOf3 [9, 14, 16] [] [])
def BL_idxF_2 (l : List At) : Tr (Ex × List At) := B_idxF_2 (aN l 0) (aN l 1) (aI l 2) (aI l 3) (aRn l 4) (aRg l 4) (aI l 5) (aI l 6)
theorem eB_idxF_2 (l : List At) : (exec Try.prog Γ_isKey y_idxF_2 noLoops 100 (loopAt Try.f19 2) ⟨mkV lsh_idxF_2 l, mkH lsh_idxF_2 l⟩).bind (leafL 2 xs_idxF_2) = BL_idxF_2 l := by kernel_rfl
/- by hand: O_idxF_2 (x0 : Nat) (x1 : Nat) (x2 : Int) (x3 : Int) (n4 : Nat) (g4 : Nat → Nat → Int) (x5 : Int) (x6 : Int) : Tr (Ex × List At); OL_idxF_2 (l) := O_idxF_2 (aN l 0) (aN l 1) (aI l 2) (aI l 3) (aRn l 4) (aRg l 4) (aI l 5) (aI l 6); μ_idxF_2 : List At → Nat; rd_idxF_2 : ∀ l r, (OL_idxF_2 l).val = some r → RoundA BL_idxF_2 OL_idxF_2 μ_idxF_2 l r -/

end Go.Proofs.Ytimdpdkgiibndaa.G
end

/-
  What the loop that looks for the first way of a key comes to.
-/
section
namespace Go.Proofs.Ytimdpdkgiibndaa.G
open Go Go.AM Go.Proofs

/-- The first of 'm' from 'i' on, or behind them. -/
def findI (p : Nat → Bool) : Nat → Nat → Nat
  | 0, i => i
  | m + 1, i => bif p i then i else findI p m (i + 1)

theorem findI_hit {p : Nat → Bool} {m i : Nat} (hm : 0 < m) (h : p i = true) : findI p m i = i := by
  obtain ⟨k, rfl⟩ : ∃ k, m = k + 1 := ⟨m - 1, by omega⟩
  rw [findI, h]; rfl
theorem findI_step {p : Nat → Bool} {m m' i : Nat} (hm : m = m' + 1) (h : p i = false) : findI p m i = findI p m' (i + 1) := by
  subst hm
  rw [findI, h]; rfl
theorem findI_spec (p : Nat → Bool) : ∀ (m i : Nat), i ≤ findI p m i ∧ findI p m i ≤ i + m ∧ (findI p m i < i + m → p (findI p m i) = true) ∧ ∀ k, i ≤ k → k < findI p m i → p k = false
  | 0, i => ⟨Nat.le_refl _, Nat.le_refl _, fun h => by simp [findI] at h, fun k h1 h2 => by simp [findI] at h2; omega⟩
  | m + 1, i => by
    cases h : p i with
    | true =>
      rw [findI_hit (by omega) h]
      exact ⟨Nat.le_refl _, by omega, fun _ => h, fun k h1 h2 => by omega⟩
    | false =>
      rw [findI_step rfl h]
      obtain ⟨a, b, c, d⟩ := findI_spec p m (i + 1)
      refine ⟨by omega, by omega, fun hl => c (by omega), fun k h1 h2 => ?_⟩
      rcases Nat.eq_or_lt_of_le h1 with e | e
      · subst e; exact h
      · exact d k e h2

def hit (g : Nat → Nat → Int) (s p : Int) (k : Nat) : Bool := r_isKey_0 (g k 0) (g k 1) s p

def O_idxF_2 (x0 : Nat) (x1 : Nat) (x2 : Int) (x3 : Int) (_n4 : Nat) (g4 : Nat → Nat → Int) (x5 x6 : Int) : Tr (Ex × List At) :=
  .br 0 (decide (0 ≤ x3 ∧ x2 = x1 ∧ x3 ≤ x2 ∧ x2 ≤ 9223372036854775807))
    (.br 0 (decide (findI (fun k => hit g4 x5 x6 (x0 + k)) (x2 - x3).toNat x3.toNat < x2.toNat))
      (.ok (.ret, [.i (findI (fun k => hit g4 x5 x6 (x0 + k)) (x2 - x3).toNat x3.toNat : Nat)])) (.ok (.exit 0, []))) .no
def OL_idxF_2 (l : List At) : Tr (Ex × List At) := O_idxF_2 (aN l 0) (aN l 1) (aI l 2) (aI l 3) (aRn l 4) (aRg l 4) (aI l 5) (aI l 6)
def μ_idxF_2 (l : List At) : Nat := (aI l 2 - aI l 3).toNat

theorem rd_idxF_2 : ∀ l r, (OL_idxF_2 l).val = some r → RoundS BL_idxF_2 OL_idxF_2 μ_idxF_2 l r := by
  intro l r h
  obtain ⟨hc, h⟩ := guard_val h
  simp only [decide_eq_true_eq] at hc
  obtain ⟨c0, c1, c2, c3⟩ := hc
  unfold RoundS BL_idxF_2 B_idxF_2
  refine brC (fun h1 => ?_) (fun h1 => ?_)
  · simp only [decide_eq_true_eq] at h1
    have hw : IntKind.i64.wrap (aI l 3 + 1) = aI l 3 + 1 := wrap_i64 (by omega) (by omega)
    refine brT (by simp only [within, Bool.and_eq_true, decide_eq_true_eq]; omega) (brC (fun h3 => ?_) (fun h3 => ?_))
    · have hf := findI_hit (p := fun k => hit (aRg l 4) (aI l 5) (aI l 6) (aN l 0 + k)) (m := (aI l 2 - aI l 3).toNat) (i := (aI l 3).toNat) (by omega) h3
      rw [hf, br_t (by simp only [decide_eq_true_eq]; omega)] at h
      have := val_ok h
      subst this
      exact out_ (by simp) rfl (atsEq_cons (atEq_i (by simp; omega)) atsEq_nil)
    · have hf := findI_step (p := fun k => hit (aRg l 4) (aI l 5) (aI l 6) (aN l 0 + k)) (m := (aI l 2 - aI l 3).toNat) (m' := (aI l 2 - (aI l 3 + 1)).toNat) (i := (aI l 3).toNat) (by omega) h3
      refine on_ [.n (aN l 0), .n (aN l 1), .i (aI l 2), .i (aI l 3 + 1), .r (aRn l 4) (aRg l 4), .i (aI l 5), .i (aI l 6)] r (by rw [hw]; exact AtsEq.refl _) ?_ ?_ rfl (AtsEq.refl _)
      · show (aI l 2 - (aI l 3 + 1)).toNat < (aI l 2 - aI l 3).toNat
        omega
      · refine (br_t (g := 0) ?_).trans ?_
        · show decide (0 ≤ aI l 3 + 1 ∧ aI l 2 = aN l 1 ∧ aI l 3 + 1 ≤ aI l 2 ∧ aI l 2 ≤ 9223372036854775807) = true
          simp only [decide_eq_true_eq]; omega
        · rw [hf, show (aI l 3).toNat + 1 = (aI l 3 + 1).toNat by omega] at h
          exact h
  · simp only [decide_eq_false_iff_not] at h1
    have e : (aI l 2 - aI l 3).toNat = 0 := by omega
    rw [e, br_f (decide_eq_false (by simp only [findI]; omega))] at h
    have := val_ok h
    subst this
    exact out_ (by simp) rfl atsEq_nil
end Go.Proofs.Ytimdpdkgiibndaa.G
end

/-
  What functions of the seat compute, printed by a program from the explorer.
-/
section
namespace Go.Proofs.Ytimdpdkgiibndaa.G
open Go Go.AM Go.Proofs
theorem f_idxF_2 : LoopF Try.prog 2 (loopAt Try.f19 2) (loopFn 2 lsh_idxF_2 xs_idxF_2 OL_idxF_2) :=
  loop_sat (sy := y_idxF_2) (fuel := 100) (Lp := noLoops) o_isKey mixed (loopsOK_at (noLoops_ok _) 2) rfl eB_idxF_2 rd_idxF_2
def Lp_idxF_2 : Loops := Loops.set noLoops 2 (loopFn 2 lsh_idxF_2 xs_idxF_2 OL_idxF_2)
theorem lk_idxF_2 : LoopsFn Try.prog 2 Lp_idxF_2 Try.f19 := loopsFn_set (noLoops_ok _) (by kernel_rfl) f_idxF_2

/-! ### idxF -/

def ish_idxF : FSh := ⟨[.v false [.vw 0 5], .v false [.fn 20 [(1, 0)]]], [.rows [.n .u64, .n .u64, .n .i64, .n .i64, .n .i64] false, .roc [.k (.n .u64), .k (.n .u64)]]⟩
def osh_idxF : FSh := ⟨[.v false [.k (.n .i64)]], [.no, .no]⟩
def T_idxF (n0 : Nat) (g0 : Nat → Nat → Int) (x1 : Int) (x2 : Int) : Tr (List At) :=
 .br 0 (decide ((0 : Int) ≤ (0 : Int) ∧ (↑n0 : Int) = (↑n0 : Int) ∧ (0 : Int) ≤ (↑n0 : Int) ∧ (↑n0 : Int) ≤ (9223372036854775807 : Int)))
 (.br 0 (decide (findI (fun (k : Nat) => hit g0 x1 x2 ((0 : Nat) + k)) (Int.toNat ((↑n0 : Int) - (0 : Int))) (0 : Nat) < Int.toNat (↑n0 : Int)))
 (.ok [(.i ((↑(findI (fun (k : Nat) => hit g0 x1 x2 ((0 : Nat) + k)) (Int.toNat ((↑n0 : Int) - (0 : Int))) (0 : Nat)) : Int)))])
 (.ok [(.i ((-1 : Int)))]))
 (.no)
def y_idxF : Nat → Option Nat := (syOf3 [] [] [])
def TL_idxF (l : List At) : Tr (List At) := T_idxF (aRn l 0) (aRg l 0) (aI l 1) (aI l 2)
theorem e_idxF (l : List At) : (call Try.prog Γ_isKey y_idxF Lp_idxF_2 100 Try.f19 (mkV ish_idxF l) (mkH ish_idxF l)).bind (leafO 2 osh_idxF) = TL_idxF l := by kernel_rfl
def r_idxF_0 (n0 : Nat) (g0 : Nat → Nat → Int) (x1 : Int) (x2 : Int) : Int :=
  bif decide ((0 : Int) ≤ (0 : Int) ∧ (↑n0 : Int) = (↑n0 : Int) ∧ (0 : Int) ≤ (↑n0 : Int) ∧ (↑n0 : Int) ≤ (9223372036854775807 : Int)) then (bif decide (findI (fun (k : Nat) => hit g0 x1 x2 ((0 : Nat) + k)) (Int.toNat ((↑n0 : Int) - (0 : Int))) (0 : Nat) < Int.toNat (↑n0 : Int)) then ((↑(findI (fun (k : Nat) => hit g0 x1 x2 ((0 : Nat) + k)) (Int.toNat ((↑n0 : Int) - (0 : Int))) (0 : Nat)) : Int))
  else (-1 : Int))
  else 0
def ok_idxF (n0 : Nat) (g0 : Nat → Nat → Int) (x1 : Int) (x2 : Int) : Bool :=
  bif decide ((0 : Int) ≤ (0 : Int) ∧ (↑n0 : Int) = (↑n0 : Int) ∧ (0 : Int) ≤ (↑n0 : Int) ∧ (↑n0 : Int) ≤ (9223372036854775807 : Int)) then (bif decide (findI (fun (k : Nat) => hit g0 x1 x2 ((0 : Nat) + k)) (Int.toNat ((↑n0 : Int) - (0 : Int))) (0 : Nat) < Int.toNat (↑n0 : Int)) then (true)
  else true)
  else false
def F_idxF : List At → Tr (List At) := fun l => .br 0 (ok_idxF (aRn l 0) (aRg l 0) (aI l 1) (aI l 2)) (.ok [.i (r_idxF_0 (aRn l 0) (aRg l 0) (aI l 1) (aI l 2))]) .no
theorem s_idxF : SpecF Try.prog 19 (.read (locR ish_idxF osh_idxF F_idxF)) :=
  spec_read (sy := y_idxF) (fuel := 100) (Lp := Lp_idxF_2) o_isKey mixed ⟨Try.func19, by kernel_rfl, by kernel_rfl⟩ ish_idxF osh_idxF (by kernel_rfl) lk_idxF_2 (hT_merged [.i] e_idxF (fun l => by kernel_rfl) (fun l => by kernel_rfl))
def Γ_idxF : Specs := upd Γ_isKey 19 (.read (locR ish_idxF osh_idxF F_idxF))
theorem o_idxF : SpecOK Try.prog Γ_idxF := SpecOK.upd o_isKey s_idxF

/-! ### at -/

def ish_at : FSh := ⟨[.v false [.p 0 0], .v true [.k (.n .u64), .k (.n .u64)]], [.roc [.sw 1 5], .rows [.n .u64, .n .u64, .n .i64, .n .i64, .n .i64] false]⟩
def osh_at : FSh := ⟨[.v false [.k (.n .i64)]], [.no, .no]⟩
def T_at (x0 : Int) (x1 : Int) (n2 : Nat) (g2 : Nat → Nat → Int) : Tr (List At) :=
 .br 0 (ok_idxF n2 (fun (j cc : Nat) => g2 ((0 : Nat) + j) cc) x0 x1)
 (.ok [(.i (r_idxF_0 n2 (fun (j cc : Nat) => g2 ((0 : Nat) + j) cc) x0 x1))])
 (.no)
def y_at : Nat → Option Nat := (syOf3 [] [] [])
def TL_at (l : List At) : Tr (List At) := T_at (aI l 0) (aI l 1) (aRn l 2) (aRg l 2)
theorem e_at (l : List At) : (call Try.prog Γ_idxF y_at noLoops 100 Try.f16 (mkV ish_at l) (mkH ish_at l)).bind (leafO 2 osh_at) = TL_at l := by kernel_rfl
def F_at : List At → Tr (List At) := TL_at
theorem s_at : SpecF Try.prog 16 (.read (locR ish_at osh_at F_at)) :=
  spec_read (sy := y_at) (fuel := 100) (Lp := noLoops) o_idxF mixed ⟨Try.func16, by kernel_rfl, by kernel_rfl⟩ ish_at osh_at (by kernel_rfl) (noLoops_ok _) (hT_ways e_at)
def Γ_at : Specs := upd Γ_idxF 16 (.read (locR ish_at osh_at F_at))
theorem o_at : SpecOK Try.prog Γ_at := SpecOK.upd o_idxF s_at

end Go.Proofs.Ytimdpdkgiibndaa.G
end

/-
  What functions of the seat compute, printed by a program from the explorer.
-/
section
namespace Go.Proofs.Ytimdpdkgiibndaa.G
open Go Go.AM Go.Proofs
/-! ### del -/

def ish_del : FSh := ⟨[.v false [.sw 0 5], .v false [.k (.n .i64)], .v false [.k (.n .i64)]], [.rows [.n .u64, .n .u64, .n .i64, .n .i64, .n .i64] true]⟩
def osh_del : FSh := ⟨[.v false [.sw 1 5]], [.no, .rows [.n .u64, .n .u64, .n .i64, .n .i64, .n .i64] true]⟩
def T_del (x0 : Int) (x1 : Int) (n2 : Nat) (g2 : Nat → Nat → Int) : Tr (List At) :=
 .br 13 (decide ((0 : Int) ≤ x0) && decide (x0 ≤ x1) && decide (x1 ≤ (↑n2 : Int)) && decide ((↑n2 : Int) ≤ (↑n2 : Int)))
 (.br 16 (x0 == x1)
 (.no)
 (.br 22 (true && decide ((0 : Int) ≤ x0) && decide (x0 ≤ (↑n2 : Int)))
 (.br 25 (decide ((0 : Int) ≤ x1) && decide (x1 ≤ (↑n2 : Int)))
 (.br 26 (true && decide (Int.toNat x0 - (0 : Nat) + (Int.toNat (↑n2 : Int) - Int.toNat x1) ≤ n2 - (0 : Nat)))
 (.br 31 (decide ((0 : Int) ≤ (↑(Int.toNat x0 - (0 : Nat) + (Int.toNat (↑n2 : Int) - Int.toNat x1)) : Int)) && decide ((↑(Int.toNat x0 - (0 : Nat) + (Int.toNat (↑n2 : Int) - Int.toNat x1)) : Int) ≤ (↑n2 : Int)) && decide ((↑n2 : Int) ≤ (↑(n2 - (0 : Nat)) : Int)) && decide ((↑(Int.toNat x0 - (0 : Nat) + (Int.toNat (↑n2 : Int) - Int.toNat x1)) : Int) ≤ (↑(Int.toNat x0 - (0 : Nat) + (Int.toNat (↑n2 : Int) - Int.toNat x1)) : Int)))
 (.ok [(.r (Int.toNat x0 - (0 : Nat) + (Int.toNat (↑n2 : Int) - Int.toNat x1)) (appG g2 (Int.toNat x0 - (0 : Nat)) fun (j c : Nat) => g2 ((0 : Nat) + Int.toNat x1 + j) c))])
 (.no))
 (.no))
 (.no))
 (.no)))
 (.no)
def y_del : Nat → Option Nat := (syOf3 [13, 16, 22, 25, 26, 31] [] [])
def TL_del (l : List At) : Tr (List At) := T_del (aI l 0) (aI l 1) (aRn l 2) (aRg l 2)
theorem e_del (l : List At) : (call Try.prog Γ_at y_del noLoops 100 Try.f17 (mkV ish_del l) (mkH ish_del l)).bind (leafO 1 osh_del) = TL_del l := by kernel_rfl
def F_del : List At → Tr (List At) := TL_del
theorem s_del : SpecF Try.prog 17 (.eff (locF ish_del osh_del F_del)) :=
  spec_loc (sy := y_del) (fuel := 100) (Lp := noLoops) o_at mixed ⟨Try.func17, by kernel_rfl, by kernel_rfl⟩ ish_del osh_del (noLoops_ok _) (hT_ways e_del)
def Γ_del : Specs := upd Γ_at 17 (.eff (locF ish_del osh_del F_del))
theorem o_del : SpecOK Try.prog Γ_del := SpecOK.upd o_at s_del

end Go.Proofs.Ytimdpdkgiibndaa.G
end

/-
  What functions of the seat compute, printed by a program from the explorer.
-/
section
namespace Go.Proofs.Ytimdpdkgiibndaa.G
open Go Go.AM Go.Proofs
/-! ### add -/

def ish_add : FSh := ⟨[.v false [.p 0 0], .v false [.k (.n .u64)], .v false [.k (.n .u64)], .v true [.k (.n .i64), .k (.n .i64), .k (.n .i64)]], [.cells [.sw 1 5], .rows [.n .u64, .n .u64, .n .i64, .n .i64, .n .i64] true]⟩
def osh_add : FSh := ⟨[.tup []], [.cells [.sw 2 5], .no, .rows [.n .u64, .n .u64, .n .i64, .n .i64, .n .i64] true]⟩
def add_c5 (x0 : Int) (x1 : Int) (n5 : Nat) (g5 : Nat → Nat → Int) : Nat := Int.toNat (r_idxF_0 n5 (fun (j cc : Nat) => g5 ((0 : Nat) + j) cc) x0 x1) - (0 : Nat) + (Int.toNat (↑n5 : Int) - Int.toNat (IntKind.wrap IntKind.i64 (r_idxF_0 n5 (fun (j cc : Nat) => g5 ((0 : Nat) + j) cc) x0 x1 + (1 : Int))))
def add_c6 (x0 : Int) (x1 : Int) (n5 : Nat) (g5 : Nat → Nat → Int) : Int := (↑(add_c5 x0 x1 n5 g5) : Int)
def add_c7 (x0 : Int) (x1 : Int) (n5 : Nat) (g5 : Nat → Nat → Int) : Int := (↑((0 : Nat) + (Int.toNat (add_c6 x0 x1 n5 g5) - (1 : Nat))) : Int)
def T_add (x0 : Int) (x1 : Int) (x2 : Int) (x3 : Int) (x4 : Int) (n5 : Nat) (g5 : Nat → Nat → Int) : Tr (List At) :=
 .br 0 (ok_idxF n5 (fun (j cc : Nat) => g5 ((0 : Nat) + j) cc) x0 x1)
 (.br 17 (decide (r_idxF_0 n5 (fun (j cc : Nat) => g5 ((0 : Nat) + j) cc) x0 x1 ≥ (0 : Int)))
 (.br 13 (decide ((0 : Int) ≤ r_idxF_0 n5 (fun (j cc : Nat) => g5 ((0 : Nat) + j) cc) x0 x1) && decide (r_idxF_0 n5 (fun (j cc : Nat) => g5 ((0 : Nat) + j) cc) x0 x1 ≤ IntKind.wrap IntKind.i64 (r_idxF_0 n5 (fun (j cc : Nat) => g5 ((0 : Nat) + j) cc) x0 x1 + (1 : Int))) && decide (IntKind.wrap IntKind.i64 (r_idxF_0 n5 (fun (j cc : Nat) => g5 ((0 : Nat) + j) cc) x0 x1 + (1 : Int)) ≤ (↑n5 : Int)) && decide ((↑n5 : Int) ≤ (↑n5 : Int)))
 (.br 16 (r_idxF_0 n5 (fun (j cc : Nat) => g5 ((0 : Nat) + j) cc) x0 x1 == IntKind.wrap IntKind.i64 (r_idxF_0 n5 (fun (j cc : Nat) => g5 ((0 : Nat) + j) cc) x0 x1 + (1 : Int)))
 (.no)
 (.br 22 (true && decide ((0 : Int) ≤ r_idxF_0 n5 (fun (j cc : Nat) => g5 ((0 : Nat) + j) cc) x0 x1) && decide (r_idxF_0 n5 (fun (j cc : Nat) => g5 ((0 : Nat) + j) cc) x0 x1 ≤ (↑n5 : Int)))
 (.br 25 (decide ((0 : Int) ≤ IntKind.wrap IntKind.i64 (r_idxF_0 n5 (fun (j cc : Nat) => g5 ((0 : Nat) + j) cc) x0 x1 + (1 : Int))) && decide (IntKind.wrap IntKind.i64 (r_idxF_0 n5 (fun (j cc : Nat) => g5 ((0 : Nat) + j) cc) x0 x1 + (1 : Int)) ≤ (↑n5 : Int)))
 (.br 26 (true && decide ((add_c5 x0 x1 n5 g5) ≤ n5 - (0 : Nat)))
 (.br 31 (decide ((0 : Int) ≤ (add_c6 x0 x1 n5 g5)) && decide ((add_c6 x0 x1 n5 g5) ≤ (↑n5 : Int)) && decide ((↑n5 : Int) ≤ (↑(n5 - (0 : Nat)) : Int)) && decide ((add_c6 x0 x1 n5 g5) ≤ (add_c6 x0 x1 n5 g5)))
 (.br 34 (decide ((add_c6 x0 x1 n5 g5) ≥ (8 : Int)))
 (.br 13 (decide ((0 : Int) ≤ (0 : Int)) && decide ((0 : Int) ≤ (1 : Int)) && decide ((1 : Int) ≤ (add_c6 x0 x1 n5 g5)) && decide ((add_c6 x0 x1 n5 g5) ≤ (add_c6 x0 x1 n5 g5)))
 (.br 16 (false)
 (.no)
 (.br 22 (true && decide ((0 : Int) ≤ (0 : Int)) && decide ((0 : Int) ≤ (add_c6 x0 x1 n5 g5)))
 (.br 25 (decide ((0 : Int) ≤ (1 : Int)) && decide ((1 : Int) ≤ (add_c6 x0 x1 n5 g5)))
 (.br 26 (true && decide ((0 : Nat) + (Int.toNat (add_c6 x0 x1 n5 g5) - (1 : Nat)) ≤ (add_c5 x0 x1 n5 g5) - (0 : Nat)))
 (.br 31 (decide ((0 : Int) ≤ (add_c7 x0 x1 n5 g5)) && decide ((add_c7 x0 x1 n5 g5) ≤ (add_c6 x0 x1 n5 g5)) && decide ((add_c6 x0 x1 n5 g5) ≤ (↑((add_c5 x0 x1 n5 g5) - (0 : Nat)) : Int)) && decide ((add_c7 x0 x1 n5 g5) ≤ (add_c7 x0 x1 n5 g5)))
 (.br 53 (decide ((0 : Nat) + (Int.toNat (↑(Int.toNat (r_idxF_0 n5 (fun (j cc : Nat) => g5 ((0 : Nat) + j) cc) x0 x1) - (0 : Nat) + (Int.toNat (↑n5 : Int) - Int.toNat (IntKind.wrap IntKind.i64 (r_idxF_0 n5 (fun (j cc : Nat) => g5 ((0 : Nat) + j) cc) x0 x1 + (1 : Int))))) : Int) - (1 : Nat)) + (1 : Nat) ≤ (1073741824 : Nat)))
 (.ok [(.r ((0 : Nat) + (Int.toNat (↑(Int.toNat (r_idxF_0 n5 (fun (j cc : Nat) => g5 ((0 : Nat) + j) cc) x0 x1) - (0 : Nat) + (Int.toNat (↑n5 : Int) - Int.toNat (IntKind.wrap IntKind.i64 (r_idxF_0 n5 (fun (j cc : Nat) => g5 ((0 : Nat) + j) cc) x0 x1 + (1 : Int))))) : Int) - (1 : Nat)) + (1 : Nat)) (appG (appG (appG g5 (Int.toNat (r_idxF_0 n5 (fun (j cc : Nat) => g5 ((0 : Nat) + j) cc) x0 x1) - (0 : Nat)) fun (j c : Nat) => g5 ((0 : Nat) + Int.toNat (IntKind.wrap IntKind.i64 (r_idxF_0 n5 (fun (j cc : Nat) => g5 ((0 : Nat) + j) cc) x0 x1 + (1 : Int))) + j) c) (0 : Nat) fun (j c : Nat) => appG g5 (Int.toNat (r_idxF_0 n5 (fun (j cc : Nat) => g5 ((0 : Nat) + j) cc) x0 x1) - (0 : Nat)) (fun (j c : Nat) => g5 ((0 : Nat) + Int.toNat (IntKind.wrap IntKind.i64 (r_idxF_0 n5 (fun (j cc : Nat) => g5 ((0 : Nat) + j) cc) x0 x1 + (1 : Int))) + j) c) ((1 : Nat) + j) c) ((0 : Nat) + (Int.toNat (↑(Int.toNat (r_idxF_0 n5 (fun (j cc : Nat) => g5 ((0 : Nat) + j) cc) x0 x1) - (0 : Nat) + (Int.toNat (↑n5 : Int) - Int.toNat (IntKind.wrap IntKind.i64 (r_idxF_0 n5 (fun (j cc : Nat) => g5 ((0 : Nat) + j) cc) x0 x1 + (1 : Int))))) : Int) - (1 : Nat))) (rowsF [[x0, x1, x2, (0 : Int), x4]])))])
 (.no))
 (.no))
 (.no))
 (.no))
 (.no)))
 (.no))
 (.br 53 (decide ((add_c5 x0 x1 n5 g5) + (1 : Nat) ≤ (1073741824 : Nat)))
 (.ok [(.r ((add_c5 x0 x1 n5 g5) + (1 : Nat)) (appG (appG g5 (Int.toNat (r_idxF_0 n5 (fun (j cc : Nat) => g5 ((0 : Nat) + j) cc) x0 x1) - (0 : Nat)) fun (j c : Nat) => g5 ((0 : Nat) + Int.toNat (IntKind.wrap IntKind.i64 (r_idxF_0 n5 (fun (j cc : Nat) => g5 ((0 : Nat) + j) cc) x0 x1 + (1 : Int))) + j) c) (add_c5 x0 x1 n5 g5) (rowsF [[x0, x1, x2, (0 : Int), x4]])))])
 (.no)))
 (.no))
 (.no))
 (.no))
 (.no)))
 (.no))
 (.br 34 (decide ((↑n5 : Int) ≥ (8 : Int)))
 (.br 13 (decide ((0 : Int) ≤ (0 : Int)) && decide ((0 : Int) ≤ (1 : Int)) && decide ((1 : Int) ≤ (↑n5 : Int)) && decide ((↑n5 : Int) ≤ (↑n5 : Int)))
 (.br 16 (false)
 (.no)
 (.br 22 (true && decide ((0 : Int) ≤ (0 : Int)) && decide ((0 : Int) ≤ (↑n5 : Int)))
 (.br 25 (decide ((0 : Int) ≤ (1 : Int)) && decide ((1 : Int) ≤ (↑n5 : Int)))
 (.br 26 (true && decide ((0 : Nat) + (Int.toNat (↑n5 : Int) - (1 : Nat)) ≤ n5 - (0 : Nat)))
 (.br 31 (decide ((0 : Int) ≤ (↑((0 : Nat) + (Int.toNat (↑n5 : Int) - (1 : Nat))) : Int)) && decide ((↑((0 : Nat) + (Int.toNat (↑n5 : Int) - (1 : Nat))) : Int) ≤ (↑n5 : Int)) && decide ((↑n5 : Int) ≤ (↑(n5 - (0 : Nat)) : Int)) && decide ((↑((0 : Nat) + (Int.toNat (↑n5 : Int) - (1 : Nat))) : Int) ≤ (↑((0 : Nat) + (Int.toNat (↑n5 : Int) - (1 : Nat))) : Int)))
 (.br 53 (decide ((0 : Nat) + (Int.toNat (↑n5 : Int) - (1 : Nat)) + (1 : Nat) ≤ (1073741824 : Nat)))
 (.ok [(.r ((0 : Nat) + (Int.toNat (↑n5 : Int) - (1 : Nat)) + (1 : Nat)) (appG (appG g5 (0 : Nat) fun (j c : Nat) => g5 ((1 : Nat) + j) c) ((0 : Nat) + (Int.toNat (↑n5 : Int) - (1 : Nat))) (rowsF [[x0, x1, x2, (0 : Int), x4]])))])
 (.no))
 (.no))
 (.no))
 (.no))
 (.no)))
 (.no))
 (.br 53 (decide (n5 + (1 : Nat) ≤ (1073741824 : Nat)))
 (.ok [(.r (n5 + (1 : Nat)) (appG g5 n5 (rowsF [[x0, x1, x2, (0 : Int), x4]])))])
 (.no))))
 (.no)
def y_add : Nat → Option Nat := (syOf3 [17, 13, 16, 22, 25, 26, 31, 34, 53] [] [])
def TL_add (l : List At) : Tr (List At) := T_add (aI l 0) (aI l 1) (aI l 2) (aI l 3) (aI l 4) (aRn l 5) (aRg l 5)
theorem e_add (l : List At) : (call Try.prog Γ_del y_add noLoops 100 Try.f8 (mkV ish_add l) (mkH ish_add l)).bind (leafO 2 osh_add) = TL_add l := by kernel_rfl
def F_add : List At → Tr (List At) := TL_add
theorem s_add : SpecF Try.prog 8 (.eff (locF ish_add osh_add F_add)) :=
  spec_loc (sy := y_add) (fuel := 100) (Lp := noLoops) o_del mixed ⟨Try.func8, by kernel_rfl, by kernel_rfl⟩ ish_add osh_add (noLoops_ok _) (hT_ways e_add)
def Γ_add : Specs := upd Γ_del 8 (.eff (locF ish_add osh_add F_add))
theorem o_add : SpecOK Try.prog Γ_add := SpecOK.upd o_del s_add

end Go.Proofs.Ytimdpdkgiibndaa.G
end

/-
  What functions of the seat compute, printed by a program from the explorer.
-/
section
namespace Go.Proofs.Ytimdpdkgiibndaa.G
open Go Go.AM Go.Proofs
/-! ### find -/

def ish_find : FSh := ⟨[.v false [.p 0 0], .v false [.k (.n .u64)], .v false [.k (.n .u64)]], [.roc [.sw 1 5], .rows [.n .u64, .n .u64, .n .i64, .n .i64, .n .i64] false]⟩
def osh_find : FSh := ⟨[.tup [(true, [.k (.n .i64), .k (.n .i64), .k (.n .i64)]), (false, [.k .b])]], [.no, .no]⟩
def T_find (x0 : Int) (x1 : Int) (n2 : Nat) (g2 : Nat → Nat → Int) : Tr (List At) :=
 .br 0 (ok_idxF n2 (fun (j cc : Nat) => g2 ((0 : Nat) + j) cc) x0 x1)
 (.br 15 (decide (r_idxF_0 n2 (fun (j cc : Nat) => g2 ((0 : Nat) + j) cc) x0 x1 < (0 : Int)))
 (.ok [(.i ((0 : Int))), (.i ((0 : Int))), (.i ((0 : Int))), (.b (false))])
 (.br 22 (within (r_idxF_0 n2 (fun (j cc : Nat) => g2 ((0 : Nat) + j) cc) x0 x1) n2)
 (.ok [(.i (g2 (Int.toNat (r_idxF_0 n2 (fun (j cc : Nat) => g2 ((0 : Nat) + j) cc) x0 x1)) (2 : Nat))), (.i (g2 (Int.toNat (r_idxF_0 n2 (fun (j cc : Nat) => g2 ((0 : Nat) + j) cc) x0 x1)) (3 : Nat))), (.i (g2 (Int.toNat (r_idxF_0 n2 (fun (j cc : Nat) => g2 ((0 : Nat) + j) cc) x0 x1)) (4 : Nat))), (.b (true))])
 (.no)))
 (.no)
def y_find : Nat → Option Nat := (syOf3 [15, 22] [] [])
def TL_find (l : List At) : Tr (List At) := T_find (aI l 0) (aI l 1) (aRn l 2) (aRg l 2)
theorem e_find (l : List At) : (call Try.prog Γ_add y_find noLoops 100 Try.f9 (mkV ish_find l) (mkH ish_find l)).bind (leafO 2 osh_find) = TL_find l := by kernel_rfl
def F_find : List At → Tr (List At) := TL_find
theorem s_find : SpecF Try.prog 9 (.read (locR ish_find osh_find F_find)) :=
  spec_read (sy := y_find) (fuel := 100) (Lp := noLoops) o_add mixed ⟨Try.func9, by kernel_rfl, by kernel_rfl⟩ ish_find osh_find (by kernel_rfl) (noLoops_ok _) (hT_ways e_find)
def Γ_find : Specs := upd Γ_add 9 (.read (locR ish_find osh_find F_find))
theorem o_find : SpecOK Try.prog Γ_find := SpecOK.upd o_add s_find

/-! ### len -/

def ish_len : FSh := ⟨[.v false [.p 0 0]], [.roc [.sw 1 5], .rows [.n .u64, .n .u64, .n .i64, .n .i64, .n .i64] false]⟩
def osh_len : FSh := ⟨[.v false [.k (.n .i64)]], [.no, .no]⟩
def T_len (n0 : Nat) (g0 : Nat → Nat → Int) : Tr (List At) :=
 .ok [(.i ((↑n0 : Int)))]
def y_len : Nat → Option Nat := (syOf3 [] [] [])
def TL_len (l : List At) : Tr (List At) := T_len (aRn l 0) (aRg l 0)
theorem e_len (l : List At) : (call Try.prog Γ_find y_len noLoops 100 Try.f10 (mkV ish_len l) (mkH ish_len l)).bind (leafO 2 osh_len) = TL_len l := by kernel_rfl
def F_len : List At → Tr (List At) := TL_len
theorem s_len : SpecF Try.prog 10 (.read (locR ish_len osh_len F_len)) :=
  spec_read (sy := y_len) (fuel := 100) (Lp := noLoops) o_find mixed ⟨Try.func10, by kernel_rfl, by kernel_rfl⟩ ish_len osh_len (by kernel_rfl) (noLoops_ok _) (hT_ways e_len)
def Γ_len : Specs := upd Γ_find 10 (.read (locR ish_len osh_len F_len))
theorem o_len : SpecOK Try.prog Γ_len := SpecOK.upd o_find s_len

/-! ### clear -/

def ish_clear : FSh := ⟨[.v false [.p 0 0]], [.cells [.sw 1 5], .rows [.n .u64, .n .u64, .n .i64, .n .i64, .n .i64] true]⟩
def osh_clear : FSh := ⟨[.tup []], [.cells [.slnil], .no]⟩
def T_clear (n0 : Nat) (g0 : Nat → Nat → Int) : Tr (List At) :=
 .ok []
def y_clear : Nat → Option Nat := (syOf3 [] [] [])
def TL_clear (l : List At) : Tr (List At) := T_clear (aRn l 0) (aRg l 0)
theorem e_clear (l : List At) : (call Try.prog Γ_len y_clear noLoops 100 Try.f11 (mkV ish_clear l) (mkH ish_clear l)).bind (leafO 2 osh_clear) = TL_clear l := by kernel_rfl
def F_clear : List At → Tr (List At) := TL_clear
theorem s_clear : SpecF Try.prog 11 (.eff (locF ish_clear osh_clear F_clear)) :=
  spec_loc (sy := y_clear) (fuel := 100) (Lp := noLoops) o_len mixed ⟨Try.func11, by kernel_rfl, by kernel_rfl⟩ ish_clear osh_clear (noLoops_ok _) (hT_ways e_clear)
def Γ_clear : Specs := upd Γ_len 11 (.eff (locF ish_clear osh_clear F_clear))
theorem o_clear : SpecOK Try.prog Γ_clear := SpecOK.upd o_len s_clear

/-! ### new -/

def ish_new : FSh := ⟨[], []⟩
def osh_new : FSh := ⟨[.v false [.p 0 0]], [.cells [.slnil]]⟩
def T_new  : Tr (List At) :=
 .ok []
def y_new : Nat → Option Nat := (syOf3 [] [] [])
def TL_new (l : List At) : Tr (List At) := T_new 
theorem e_new (l : List At) : (call Try.prog Γ_clear y_new noLoops 100 Try.f7 (mkV ish_new l) (mkH ish_new l)).bind (leafO 0 osh_new) = TL_new l := by kernel_rfl
def F_new : List At → Tr (List At) := TL_new
theorem s_new : SpecF Try.prog 7 (.eff (locF ish_new osh_new F_new)) :=
  spec_loc (sy := y_new) (fuel := 100) (Lp := noLoops) o_clear mixed ⟨Try.func7, by kernel_rfl, by kernel_rfl⟩ ish_new osh_new (noLoops_ok _) (hT_ways e_new)
def Γ_new : Specs := upd Γ_clear 7 (.eff (locF ish_new osh_new F_new))
theorem o_new : SpecOK Try.prog Γ_new := SpecOK.upd o_clear s_new

end Go.Proofs.Ytimdpdkgiibndaa.G
end

/-
  What looks for a way, and what adds one, in few words.
-/
section
namespace Go.Proofs.Ytimdpdkgiibndaa.G
open Go Go.AM Go.Proofs

def idx (n : Nat) (g : Nat → Nat → Int) (s p : Int) : Nat := findI (hit g s p) n 0
def fnd (n : Nat) (g : Nat → Nat → Int) (s p : Int) : Bool := decide (idx n g s p < n)

theorem r_idx {n : Nat} {g : Nat → Nat → Int} {s p : Int} (h : n ≤ 4611686018427387904) :
    ok_idxF n (fun j cc => g (0 + j) cc) s p = true ∧ r_idxF_0 n (fun j cc => g (0 + j) cc) s p = bif fnd n g s p then (idx n g s p : Int) else -1 := by
  have hg : (fun (j cc : Nat) => g (0 + j) cc) = g := by funext j cc; rw [Nat.zero_add]
  have hk : (fun (k : Nat) => hit g s p (0 + k)) = hit g s p := by funext k; rw [Nat.zero_add]
  have e1 : ((n : Int) - 0).toNat = n := by omega
  have e2 : (n : Int).toNat = n := by omega
  have hc : decide ((0 : Int) ≤ (0 : Int) ∧ (n : Int) = (n : Int) ∧ (0 : Int) ≤ (n : Int) ∧ (n : Int) ≤ (9223372036854775807 : Int)) = true := decide_eq_true (by omega)
  unfold ok_idxF r_idxF_0
  rw [hg, hk, e1, e2, hc]
  constructor
  · simp only [cond_true]
    cases decide (findI (hit g s p) n 0 < n) <;> rfl
  · rfl

def delG (g : Nat → Nat → Int) (i : Nat) : Nat → Nat → Int := fun k c => if k < i then g k c else g (k + 1) c
def oneN (n : Nat) (g : Nat → Nat → Int) (s p : Int) : Nat := bif fnd n g s p then n - 1 else n
def oneG (n : Nat) (g : Nat → Nat → Int) (s p : Int) : Nat → Nat → Int := bif fnd n g s p then delG g (idx n g s p) else g
def twoN (n : Nat) (g : Nat → Nat → Int) (s p : Int) : Nat := bif decide (8 ≤ oneN n g s p) then oneN n g s p - 1 else oneN n g s p
def twoG (n : Nat) (g : Nat → Nat → Int) (s p : Int) : Nat → Nat → Int := bif decide (8 ≤ oneN n g s p) then delG (oneG n g s p) 0 else oneG n g s p
def addN (n : Nat) (g : Nat → Nat → Int) (s p : Int) : Nat := twoN n g s p + 1
def addG (n : Nat) (g : Nat → Nat → Int) (s p a c : Int) : Nat → Nat → Int := appG (twoG n g s p) (twoN n g s p) (rowsF [[s, p, a, 0, c]])

theorem app_del {g : Nat → Nat → Int} {i j : Nat} (hj : j = i + 1) : (appG g i fun (k c : Nat) => g (0 + j + k) c) = delG g i := by
  subst hj
  funext k c
  unfold appG delG
  by_cases h : k < i
  · rw [if_pos h, if_pos h]
  · rw [if_neg h, if_neg h]
    exact congrArg (fun z => g z c) (by omega)

theorem t_add {x0 x1 x2 x3 x4 : Int} {n : Nat} {g : Nat → Nat → Int} (h : n ≤ 8) :
    (T_add x0 x1 x2 x3 x4 n g).sat fun r => AtsEq r [.r (addN n g x0 x1) (addG n g x0 x1 x2 x4)] := by
  obtain ⟨ho, hr⟩ := r_idx (n := n) (g := g) (s := x0) (p := x1) (by omega)
  unfold T_add add_c7 add_c6 add_c5 
  rw [ho, hr]
  refine brT rfl ?_
  cases hf : fnd n g x0 x1 with
  | true =>
    have hi : idx n g x0 x1 < n := of_decide_eq_true hf
    have hw : IntKind.i64.wrap ((idx n g x0 x1 : Int) + 1) = (idx n g x0 x1 : Int) + 1 := wrap_i64 (by omega) (by omega)
    have hN : idx n g x0 x1 - 0 + ((n : Int).toNat - ((idx n g x0 x1 : Int) + 1).toNat) = n - 1 := by omega
    have hI : (idx n g x0 x1 : Int).toNat = idx n g x0 x1 := by omega
    have hJ : ((idx n g x0 x1 : Int) + 1).toNat = idx n g x0 x1 + 1 := by omega
    simp only [cond_true, hw, hI, hN]
    refine brT (by simp only [decide_eq_true_eq]; omega) ?_
    refine brT (by simp only [Bool.and_eq_true, decide_eq_true_eq]; omega) ?_
    refine brF (by rw [beq_eq_false_iff_ne]; omega) ?_
    refine brT (by simp only [Bool.true_and, Bool.and_eq_true, decide_eq_true_eq]; omega) ?_
    refine brT (by simp only [Bool.and_eq_true, decide_eq_true_eq]; omega) ?_
    refine brT (by simp only [Bool.true_and, decide_eq_true_eq]; omega) ?_
    refine brT (by simp only [Bool.and_eq_true, decide_eq_true_eq]; omega) ?_
    refine brF (by simp only [decide_eq_false_iff_not]; omega) ?_
    refine brT (by simp only [decide_eq_true_eq]; omega) (Tr.sat_ok.2 (atsEq_cons (atEq_r ?_ fun k _ c => ?_) atsEq_nil))
    · unfold addN twoN oneN
      rw [hf, cond_true, decide_eq_false (by omega), cond_false]
    · unfold addG twoG twoN oneN oneG
      rw [hf, cond_true, cond_true, decide_eq_false (by omega), cond_false, cond_false, Nat.sub_zero, app_del hJ]
  | false =>
    simp only [cond_false]
    refine brF (by simp only [decide_eq_false_iff_not]; omega) ?_
    refine brD (fun h8 => ?_) (fun h8 => ?_)
    · have e1 : n = 8 := by omega
      subst e1
      refine brT rfl (brF rfl (brT rfl (brT rfl (brT rfl (brT rfl (brT rfl (Tr.sat_ok.2 (atsEq_cons (atEq_r ?_ fun k _ c => ?_) atsEq_nil))))))))
      · unfold addN twoN oneN
        rw [hf]; rfl
      · unfold addG twoG twoN oneN oneG
        rw [hf]
        show appG (appG g 0 fun (j c : Nat) => g (1 + j) c) 7 (rowsF [[x0, x1, x2, 0, x4]]) k c = appG (delG g 0) 7 (rowsF [[x0, x1, x2, 0, x4]]) k c
        have := app_del (g := g) (i := 0) (j := 1) rfl
        simp only [Nat.zero_add] at this
        rw [this]
    · refine brT (by simp only [decide_eq_true_eq]; omega) (Tr.sat_ok.2 (atsEq_cons (atEq_r ?_ fun k _ c => ?_) atsEq_nil))
      · unfold addN twoN oneN
        rw [hf, cond_false, decide_eq_false (by omega), cond_false]
      · unfold addG twoG twoN oneN oneG
        rw [hf, cond_false, cond_false, decide_eq_false (by omega), cond_false, cond_false]

def F2_add (l : List At) : Tr (List At) := .br 0 (decide (aRn l 5 ≤ 8)) (.ok [.r (addN (aRn l 5) (aRg l 5) (aI l 0) (aI l 1)) (addG (aRn l 5) (aRg l 5) (aI l 0) (aI l 1) (aI l 2) (aI l 4))]) .no
theorem h_add : ∀ l r, (F2_add l).val = some r → ∃ r', ((call Try.prog Γ_del y_add noLoops 100 Try.f8 (mkV ish_add l) (mkH ish_add l)).bind (leafO 2 osh_add)).val = some r' ∧ AtsEq r' r := by
  intro l r h
  obtain ⟨hc, h⟩ := guard_val h
  have := val_ok h
  subst this
  obtain ⟨r', h1, h2⟩ := t_add (x0 := aI l 0) (x1 := aI l 1) (x2 := aI l 2) (x3 := aI l 3) (x4 := aI l 4) (g := aRg l 5) (of_decide_eq_true hc)
  exact ⟨r', by rw [e_add]; exact h1, h2⟩
theorem s2_add : SpecF Try.prog 8 (.eff (locF ish_add osh_add F2_add)) :=
  spec_loc (sy := y_add) (fuel := 100) (Lp := noLoops) o_del mixed ⟨Try.func8, by kernel_rfl, by kernel_rfl⟩ ish_add osh_add (noLoops_ok _) h_add

def fndI (n : Nat) (g : Nat → Nat → Int) (s p : Int) (c : Nat) : Int := bif fnd n g s p then g (idx n g s p) c else 0
def F2_find (l : List At) : Tr (List At) := .br 0 (decide (aRn l 2 ≤ 4611686018427387904)) (.ok [.i (fndI (aRn l 2) (aRg l 2) (aI l 0) (aI l 1) 2), .i (fndI (aRn l 2) (aRg l 2) (aI l 0) (aI l 1) 3), .i (fndI (aRn l 2) (aRg l 2) (aI l 0) (aI l 1) 4), .b (fnd (aRn l 2) (aRg l 2) (aI l 0) (aI l 1))]) .no
theorem t_find {x0 x1 : Int} {n : Nat} {g : Nat → Nat → Int} (h : n ≤ 4611686018427387904) :
    (T_find x0 x1 n g).sat fun r => r = [.i (fndI n g x0 x1 2), .i (fndI n g x0 x1 3), .i (fndI n g x0 x1 4), .b (fnd n g x0 x1)] := by
  obtain ⟨ho, hr⟩ := r_idx (n := n) (g := g) (s := x0) (p := x1) h
  unfold T_find fndI
  rw [ho, hr]
  refine brT rfl ?_
  cases hf : fnd n g x0 x1 with
  | true =>
    have hi : idx n g x0 x1 < n := of_decide_eq_true hf
    have hI : (idx n g x0 x1 : Int).toNat = idx n g x0 x1 := by omega
    simp only [cond_true, hI]
    exact brF (by simp only [decide_eq_false_iff_not]; omega) (brT (by simp only [within, Bool.and_eq_true, decide_eq_true_eq]; omega) (Tr.sat_ok.2 rfl))
  | false => exact brT rfl (Tr.sat_ok.2 rfl)
theorem h_find : ∀ l r, (F2_find l).val = some r → ∃ r', ((call Try.prog Γ_add y_find noLoops 100 Try.f9 (mkV ish_find l) (mkH ish_find l)).bind (leafO 2 osh_find)).val = some r' ∧ AtsEq r' r := by
  intro l r h
  obtain ⟨hc, h⟩ := guard_val h
  have := val_ok h
  subst this
  obtain ⟨r', h1, h2⟩ := t_find (x0 := aI l 0) (x1 := aI l 1) (g := aRg l 2) (of_decide_eq_true hc)
  exact ⟨r', by rw [e_find]; exact h1, by rw [h2]; exact AtsEq.refl _⟩
theorem s2_find : SpecF Try.prog 9 (.read (locR ish_find osh_find F2_find)) :=
  spec_read (sy := y_find) (fuel := 100) (Lp := noLoops) o_add mixed ⟨Try.func9, by kernel_rfl, by kernel_rfl⟩ ish_find osh_find (by kernel_rfl) (noLoops_ok _) h_find
def Γ_S5 : Specs := (upd (upd Γ_new 8 (.eff (locF ish_add osh_add F2_add))) 9 (.read (locR ish_find osh_find F2_find)))
theorem o_S5 : SpecOK Try.prog Γ_S5 := (SpecOK.upd (SpecOK.upd o_new s2_add) s2_find)
end Go.Proofs.Ytimdpdkgiibndaa.G
end

/-
  What functions of the seat compute, printed by a program from the explorer.
-/
section
namespace Go.Proofs.Ytimdpdkgiibndaa.G
open Go Go.AM Go.Proofs
/-! ### shown -/

def ish_shown : FSh := ⟨[], []⟩
def osh_shown : FSh := ⟨[.v false [.k .b]], []⟩
def T_shown  : Tr (List At) :=
 .br 0 (true)
 (.br 0 (true)
 (.br 0 (true)
 (.br 0 (true)
 (.br 0 (true)
 (.br 0 (true)
 (.br 0 (true)
 (.br 0 (true)
 (.br 0 (true)
 (.br 0 (true)
 (.br 0 (true)
 (.br 0 (true)
 (.ok [(.b (true))])
 (.no))
 (.no))
 (.no))
 (.no))
 (.no))
 (.no))
 (.no))
 (.no))
 (.no))
 (.no))
 (.no))
 (.no)
def y_shown : Nat → Option Nat := (syOf3 [] [] [])
def TL_shown (l : List At) : Tr (List At) := T_shown 
theorem e_shown (l : List At) : (call Try.prog Γ_S5 y_shown noLoops 100 Try.f6 (mkV ish_shown l) (mkH ish_shown l)).bind (leafO 0 osh_shown) = TL_shown l := by kernel_rfl
def F_shown : List At → Tr (List At) := TL_shown
theorem s_shown : SpecF Try.prog 6 (.eff (locF ish_shown osh_shown F_shown)) :=
  spec_loc (sy := y_shown) (fuel := 100) (Lp := noLoops) o_S5 mixed ⟨Try.func6, by kernel_rfl, by kernel_rfl⟩ ish_shown osh_shown (noLoops_ok _) (hT_ways e_shown)
def Γ_shown : Specs := upd Γ_S5 6 (.eff (locF ish_shown osh_shown F_shown))
theorem o_shown : SpecOK Try.prog Γ_shown := SpecOK.upd o_S5 s_shown

end Go.Proofs.Ytimdpdkgiibndaa.G
end

/-
  What functions of the seat compute, printed by a program from the explorer.
-/
section
namespace Go.Proofs.Ytimdpdkgiibndaa.G
open Go Go.AM Go.Proofs
/-! ### the loop at 6 of TlbForgets -/

def lsh_TlbForgets_6 : FSh := ⟨[.v false [.sq 0 6], .any, .any, .v false [.k .b], .v false [.p 1 0], .v false [.k (.n .i64)], .any, .any, .any, .any, .any, .any, .any, .any, .any, .any, .any, .any, .any, .any, .any, .any, .any, .any, .any, .any, .any, .any, .any, .any, .any, .any, .any, .any, .any, .any, .any, .any, .any, .any, .any, .any, .any, .any, .any, .any, .any, .any, .any, .any, .any, .any, .any, .any, .any, .any, .any, .any, .any, .any, .any, .any, .any, .any, .any, .any, .any, .any, .any, .any, .any, .any, .any, .any, .any, .any, .any, .any, .any, .any, .any, .any, .any, .any, .any, .any, .any, .any, .any, .any, .any, .any, .any, .any, .any, .any, .any, .any, .any, .any, .any, .any, .any, .any, .any, .any, .any, .any, .any, .any, .any, .any, .any, .any, .any, .any, .any, .any, .any, .any, .any], [.rows [.n .i64, .n .u64, .n .u64, .n .i64, .n .i64, .n .i64] false, .cells [.sw 2 5], .rows [.n .u64, .n .u64, .n .i64, .n .i64, .n .i64] true]⟩
def xsh_TlbForgets_6_0 : FSh := ⟨[.v false [.sq 0 6], .any, .any, .v false [.k .b], .v false [.p 1 0], .any, .any, .any, .any, .any, .any, .any, .any, .any, .any, .any, .any, .any, .any, .any, .any, .any, .any, .any, .any, .any, .any, .any, .any, .any, .any, .any, .any, .any, .any, .any, .any, .any, .any, .any, .any, .any, .any, .any, .any, .any, .any, .any, .any, .any, .any, .any, .any, .any, .any, .any, .any, .any, .any, .any, .any, .any, .any, .any, .any, .any, .any, .any, .any, .any, .any, .any, .any, .any, .any, .any, .any, .any, .any, .any, .any, .any, .any, .any, .any, .any, .any, .any, .any, .any, .any, .any, .any, .any, .any, .any, .any, .any, .any, .any, .any, .any, .any, .any, .any, .any, .any, .any, .any, .any, .any, .any, .any, .any, .any, .any, .any, .any, .any, .any, .any], [.rows [.n .i64, .n .u64, .n .u64, .n .i64, .n .i64, .n .i64] false, .cells [.sw 2 5], .rows [.n .u64, .n .u64, .n .i64, .n .i64, .n .i64] true]⟩
def xs_TlbForgets_6 : Exs := fun e => match e with
  | .normal => some lsh_TlbForgets_6
  | .exit n => (match Nat.beq n 0 with | true => some xsh_TlbForgets_6_0 | false => none)
  | .ret => none
def TlbForgets_6_c0 (x0 : Nat) (x3 : Int) (g4 : Nat → Nat → Int) (n5 : Nat) (g5 : Nat → Nat → Int) : Nat := addN (addN n5 g5 (g4 (x0 + Int.toNat x3) (1 : Nat)) (g4 (x0 + Int.toNat x3) (2 : Nat))) (addG n5 g5 (g4 (x0 + Int.toNat x3) (1 : Nat)) (g4 (x0 + Int.toNat x3) (2 : Nat)) (g4 (x0 + Int.toNat x3) (3 : Nat)) (g4 (x0 + Int.toNat x3) (5 : Nat))) (g4 (x0 + Int.toNat x3) (1 : Nat)) (g4 (x0 + Int.toNat x3) (2 : Nat))
def B_TlbForgets_6 (x0 : Nat) (x1 : Nat) (x2 : Bool) (x3 : Int) (n4 : Nat) (g4 : Nat → Nat → Int) (n5 : Nat) (g5 : Nat → Nat → Int) : Tr (Ex × List At) :=
 .br 24 (decide (x3 < (↑x1 : Int)))
 (.br 27 (decide (x3 < (50 : Int)))
 (.br 33 (within x3 x1)
 (.br 38 (within x3 x1)
 (.br 43 (within x3 x1)
 (.br 0 (decide (n5 ≤ (8 : Nat)))
 (.br 52 (within x3 x1)
 (.br 57 (within x3 x1)
 (.br 0 (decide (addN n5 g5 (g4 (x0 + Int.toNat x3) (1 : Nat)) (g4 (x0 + Int.toNat x3) (2 : Nat)) ≤ (8 : Nat)))
 (.br 66 (within x3 x1)
 (.br 71 (within x3 x1)
 (.br 0 (decide ((TlbForgets_6_c0 x0 x3 g4 n5 g5) ≤ (4611686018427387904 : Nat)))
 (.br 81 ((↑(TlbForgets_6_c0 x0 x3 g4 n5 g5) : Int) != (↑(addN n5 g5 (g4 (x0 + Int.toNat x3) (1 : Nat)) (g4 (x0 + Int.toNat x3) (2 : Nat))) : Int))
 (.no)
 (.br 85 (!fnd (TlbForgets_6_c0 x0 x3 g4 n5 g5) (addG (addN n5 g5 (g4 (x0 + Int.toNat x3) (1 : Nat)) (g4 (x0 + Int.toNat x3) (2 : Nat))) (addG n5 g5 (g4 (x0 + Int.toNat x3) (1 : Nat)) (g4 (x0 + Int.toNat x3) (2 : Nat)) (g4 (x0 + Int.toNat x3) (3 : Nat)) (g4 (x0 + Int.toNat x3) (5 : Nat))) (g4 (x0 + Int.toNat x3) (1 : Nat)) (g4 (x0 + Int.toNat x3) (2 : Nat)) (7 : Int) (0 : Int)) (g4 (x0 + Int.toNat x3) (1 : Nat)) (g4 (x0 + Int.toNat x3) (2 : Nat)))
 (.no)
 (.br 89 (!(fndI (TlbForgets_6_c0 x0 x3 g4 n5 g5) (addG (addN n5 g5 (g4 (x0 + Int.toNat x3) (1 : Nat)) (g4 (x0 + Int.toNat x3) (2 : Nat))) (addG n5 g5 (g4 (x0 + Int.toNat x3) (1 : Nat)) (g4 (x0 + Int.toNat x3) (2 : Nat)) (g4 (x0 + Int.toNat x3) (3 : Nat)) (g4 (x0 + Int.toNat x3) (5 : Nat))) (g4 (x0 + Int.toNat x3) (1 : Nat)) (g4 (x0 + Int.toNat x3) (2 : Nat)) (7 : Int) (0 : Int)) (g4 (x0 + Int.toNat x3) (1 : Nat)) (g4 (x0 + Int.toNat x3) (2 : Nat)) (2 : Nat) == (7 : Int) && (fndI (TlbForgets_6_c0 x0 x3 g4 n5 g5) (addG (addN n5 g5 (g4 (x0 + Int.toNat x3) (1 : Nat)) (g4 (x0 + Int.toNat x3) (2 : Nat))) (addG n5 g5 (g4 (x0 + Int.toNat x3) (1 : Nat)) (g4 (x0 + Int.toNat x3) (2 : Nat)) (g4 (x0 + Int.toNat x3) (3 : Nat)) (g4 (x0 + Int.toNat x3) (5 : Nat))) (g4 (x0 + Int.toNat x3) (1 : Nat)) (g4 (x0 + Int.toNat x3) (2 : Nat)) (7 : Int) (0 : Int)) (g4 (x0 + Int.toNat x3) (1 : Nat)) (g4 (x0 + Int.toNat x3) (2 : Nat)) (3 : Nat) == (0 : Int) && (fndI (TlbForgets_6_c0 x0 x3 g4 n5 g5) (addG (addN n5 g5 (g4 (x0 + Int.toNat x3) (1 : Nat)) (g4 (x0 + Int.toNat x3) (2 : Nat))) (addG n5 g5 (g4 (x0 + Int.toNat x3) (1 : Nat)) (g4 (x0 + Int.toNat x3) (2 : Nat)) (g4 (x0 + Int.toNat x3) (3 : Nat)) (g4 (x0 + Int.toNat x3) (5 : Nat))) (g4 (x0 + Int.toNat x3) (1 : Nat)) (g4 (x0 + Int.toNat x3) (2 : Nat)) (7 : Int) (0 : Int)) (g4 (x0 + Int.toNat x3) (1 : Nat)) (g4 (x0 + Int.toNat x3) (2 : Nat)) (4 : Nat) == (0 : Int) && true))))
 (.no)
 (.ok (.normal, [(.n (x0)), (.n (x1)), (.b (x2)), (.i (IntKind.wrap IntKind.i64 (x3 + (1 : Int)))), (.r (n4) (g4)), (.r (addN (addN n5 g5 (g4 (x0 + Int.toNat x3) (1 : Nat)) (g4 (x0 + Int.toNat x3) (2 : Nat))) (addG n5 g5 (g4 (x0 + Int.toNat x3) (1 : Nat)) (g4 (x0 + Int.toNat x3) (2 : Nat)) (g4 (x0 + Int.toNat x3) (3 : Nat)) (g4 (x0 + Int.toNat x3) (5 : Nat))) (g4 (x0 + Int.toNat x3) (1 : Nat)) (g4 (x0 + Int.toNat x3) (2 : Nat))) (addG (addN n5 g5 (g4 (x0 + Int.toNat x3) (1 : Nat)) (g4 (x0 + Int.toNat x3) (2 : Nat))) (addG n5 g5 (g4 (x0 + Int.toNat x3) (1 : Nat)) (g4 (x0 + Int.toNat x3) (2 : Nat)) (g4 (x0 + Int.toNat x3) (3 : Nat)) (g4 (x0 + Int.toNat x3) (5 : Nat))) (g4 (x0 + Int.toNat x3) (1 : Nat)) (g4 (x0 + Int.toNat x3) (2 : Nat)) (7 : Int) (0 : Int)))])))))
 (.no))
 (.no))
 (.no))
 (.no))
 (.no))
 (.no))
 (.no))
 (.no))
 (.no))
 (.no))
 (.ok (.exit 0, [(.n (x0)), (.n (x1)), (.b (x2)), (.r (n4) (g4)), (.r (n5) (g5))])))
 (.ok (.exit 0, [(.n (x0)), (.n (x1)), (.b (x2)), (.r (n4) (g4)), (.r (n5) (g5))]))
def y_TlbForgets_6 : Nat → Option Nat := (syOf3 [24, 27, 33, 38, 43, 52, 57, 66, 71, 81, 85, 89] [] [])
def BL_TlbForgets_6 (l : List At) : Tr (Ex × List At) := B_TlbForgets_6 (aN l 0) (aN l 1) (aB l 2) (aI l 3) (aRn l 4) (aRg l 4) (aRn l 5) (aRg l 5)
theorem eB_TlbForgets_6 (l : List At) : (exec Try.prog Γ_shown y_TlbForgets_6 noLoops 100 (loopAt Try.f4 6) ⟨mkV lsh_TlbForgets_6 l, mkH lsh_TlbForgets_6 l⟩).bind (leafL 1 xs_TlbForgets_6) = BL_TlbForgets_6 l := by kernel_rfl
/- by hand: O_TlbForgets_6 (x0 : Nat) (x1 : Nat) (x2 : Bool) (x3 : Int) (n4 : Nat) (g4 : Nat → Nat → Int) (n5 : Nat) (g5 : Nat → Nat → Int) : Tr (Ex × List At); OL_TlbForgets_6 (l) := O_TlbForgets_6 (aN l 0) (aN l 1) (aB l 2) (aI l 3) (aRn l 4) (aRg l 4) (aRn l 5) (aRg l 5); μ_TlbForgets_6 : List At → Nat; rd_TlbForgets_6 : ∀ l r, (OL_TlbForgets_6 l).val = some r → RoundA BL_TlbForgets_6 OL_TlbForgets_6 μ_TlbForgets_6 l r -/

end Go.Proofs.Ytimdpdkgiibndaa.G
end

/-
  A cache's ways, all of different keys; what the loop that adds each way twice comes to.
-/
section
namespace Go.Proofs.Ytimdpdkgiibndaa.G
open Go Go.AM Go.Proofs

noncomputable def pdec (p : Prop) : Bool := @decide p (Classical.propDecidable p)
theorem pdec_yes {p : Prop} (h : p) : pdec p = true := @decide_eq_true p (Classical.propDecidable p) h
theorem of_pdec {p : Prop} (h : pdec p = true) : p := @of_decide_eq_true p (Classical.propDecidable p) h
theorem appG_at {g src : Nat → Nat → Int} {n : Nat} (c : Nat) : appG g n src n c = src 0 c := by unfold appG; rw [if_neg (by omega), Nat.sub_self]
theorem appG_lt {g src : Nat → Nat → Int} {n k : Nat} (h : k < n) (c : Nat) : appG g n src k c = g k c := by unfold appG; rw [if_pos h]

/-- No two ways of one key. -/
def Dist (n : Nat) (g : Nat → Nat → Int) : Prop := ∀ i j, i < j → j < n → ¬ (g i 0 = g j 0 ∧ g i 1 = g j 1)
/-- No way of this key. -/
def NK (n : Nat) (g : Nat → Nat → Int) (s p : Int) : Prop := ∀ k, k < n → hit g s p k = false

theorem hit_iff {g : Nat → Nat → Int} {s p : Int} {k : Nat} : hit g s p k = true ↔ g k 0 = s ∧ g k 1 = p := by
  unfold hit r_isKey_0
  simp only [Bool.and_true, Bool.and_eq_true, beq_iff_eq]
theorem hit_not {g : Nat → Nat → Int} {s p : Int} {k : Nat} : hit g s p k = false ↔ ¬ (g k 0 = s ∧ g k 1 = p) := by
  rw [← hit_iff]; cases hit g s p k <;> simp
theorem del_lt {g : Nat → Nat → Int} {i k : Nat} (h : k < i) (c : Nat) : delG g i k c = g k c := by unfold delG; rw [if_pos h]
theorem del_ge {g : Nat → Nat → Int} {i k : Nat} (h : ¬ k < i) (c : Nat) : delG g i k c = g (k + 1) c := by unfold delG; rw [if_neg h]
theorem del_at (g : Nat → Nat → Int) (i k : Nat) : ∃ k', (∀ c, delG g i k c = g k' c) ∧ k ≤ k' ∧ k' ≤ k + 1 ∧ (k < i → k' = k) ∧ (¬ k < i → k' = k + 1) := by
  by_cases h : k < i
  · exact ⟨k, fun c => del_lt h c, by omega, by omega, by omega, by omega⟩
  · exact ⟨k + 1, fun c => del_ge h c, by omega, by omega, by omega, by omega⟩
theorem del_dist {n : Nat} {g : Nat → Nat → Int} (h : Dist n g) (q : Nat) : Dist (n - 1) (delG g q) := by
  intro i j h1 h2
  obtain ⟨i', ei, a1, a2, a3, a4⟩ := del_at g q i
  obtain ⟨j', ej, b1, b2, b3, b4⟩ := del_at g q j
  rw [ei, ei, ej, ej]
  refine h i' j' ?_ (by omega)
  by_cases h3 : i < q
  · have := a3 h3; omega
  · have := a4 h3; have := b4 (by omega); omega
theorem del_nk {n : Nat} {g : Nat → Nat → Int} {s p : Int} (h : NK n g s p) (q : Nat) : NK (n - 1) (delG g q) s p := by
  intro k hk
  obtain ⟨k', e, a1, a2, _, _⟩ := del_at g q k
  rw [hit_not, e, e]
  exact hit_not.1 (h k' (by omega))

theorem idx_spec (n : Nat) (g : Nat → Nat → Int) (s p : Int) : idx n g s p ≤ n ∧ (idx n g s p < n → hit g s p (idx n g s p) = true) ∧ ∀ k, k < idx n g s p → hit g s p k = false := by
  obtain ⟨_, b, c, d⟩ := findI_spec (hit g s p) n 0
  rw [Nat.zero_add] at b c
  exact ⟨b, c, fun k hk => d k (Nat.zero_le _) hk⟩
theorem one_dist {n : Nat} {g : Nat → Nat → Int} {s p : Int} (h : Dist n g) : Dist (oneN n g s p) (oneG n g s p) := by
  unfold oneN oneG
  cases fnd n g s p with
  | true => exact del_dist h _
  | false => exact h
theorem one_nk {n : Nat} {g : Nat → Nat → Int} {s p : Int} (h : Dist n g) : NK (oneN n g s p) (oneG n g s p) s p := by
  obtain ⟨a, b, c⟩ := idx_spec n g s p
  unfold oneN oneG
  cases hf : fnd n g s p with
  | true =>
    have hi : idx n g s p < n := of_decide_eq_true hf
    obtain ⟨b1, b2⟩ := hit_iff.1 (b hi)
    intro k hk
    have hk : k < n - 1 := hk
    show hit (delG g (idx n g s p)) s p k = false
    by_cases h1 : k < idx n g s p
    · rw [hit_not, del_lt h1, del_lt h1]; exact hit_not.1 (c k h1)
    · rw [hit_not, del_ge h1, del_ge h1]
      have := h (idx n g s p) (k + 1) (by omega) (by omega)
      rw [b1, b2] at this
      exact fun hh => this ⟨hh.1.symm, hh.2.symm⟩
  | false =>
    have hi : ¬ idx n g s p < n := of_decide_eq_false hf
    exact fun k hk => c k (by have : k < n := hk; omega)
theorem two_all {n : Nat} {g : Nat → Nat → Int} {s p : Int} (h : Dist n g) (hn : n ≤ 8) : twoN n g s p ≤ 7 ∧ Dist (twoN n g s p) (twoG n g s p) ∧ NK (twoN n g s p) (twoG n g s p) s p := by
  have hd := one_dist (s := s) (p := p) h
  have hk := one_nk (s := s) (p := p) h
  have hl : oneN n g s p ≤ 8 := by unfold oneN; cases fnd n g s p <;> simp <;> omega
  unfold twoN twoG
  cases h8 : decide (8 ≤ oneN n g s p) with
  | true =>
    exact ⟨by simp only [cond_true]; omega, del_dist hd 0, del_nk hk 0⟩
  | false =>
    have := of_decide_eq_false h8
    exact ⟨by simp only [cond_false]; omega, hd, hk⟩
theorem row_at (s p a c : Int) : rowsF [[s, p, a, 0, c]] 0 0 = s ∧ rowsF [[s, p, a, 0, c]] 0 1 = p ∧ rowsF [[s, p, a, 0, c]] 0 2 = a ∧ rowsF [[s, p, a, 0, c]] 0 3 = 0 ∧ rowsF [[s, p, a, 0, c]] 0 4 = c := ⟨rfl, rfl, rfl, rfl, rfl⟩

theorem add_all {n : Nat} {g : Nat → Nat → Int} {s p : Int} (a c : Int) (h : Dist n g) (hn : n ≤ 8) :
    addN n g s p ≤ 8 ∧ Dist (addN n g s p) (addG n g s p a c) ∧ idx (addN n g s p) (addG n g s p a c) s p = twoN n g s p := by
  obtain ⟨t1, t2, t3⟩ := two_all (s := s) (p := p) h hn
  obtain ⟨r0, r1, _⟩ := row_at s p a c
  refine ⟨by unfold addN; omega, ?_, ?_⟩
  · unfold addN addG
    intro i j h1 h2
    rcases Nat.lt_or_ge j (twoN n g s p) with h3 | h3
    · rw [appG_lt (k := i) (by omega) 0, appG_lt (k := i) (by omega) 1, appG_lt h3 0, appG_lt h3 1]
      exact t2 i j h1 h3
    · obtain rfl : j = twoN n g s p := by omega
      rw [appG_lt h1, appG_lt h1, appG_at, appG_at, r0, r1]
      exact hit_not.1 (t3 i h1)
  · obtain ⟨a1, a2, a3⟩ := idx_spec (addN n g s p) (addG n g s p a c) s p
    have hl : hit (addG n g s p a c) s p (twoN n g s p) = true := by
      rw [hit_iff]; unfold addG
      rw [appG_at, appG_at, r0, r1]; exact ⟨rfl, rfl⟩
    have hx : addN n g s p = twoN n g s p + 1 := rfl
    rcases Nat.lt_trichotomy (idx (addN n g s p) (addG n g s p a c) s p) (twoN n g s p) with h1 | h1 | h1
    · exfalso
      have := a2 (by omega)
      rw [hit_iff] at this
      unfold addG at this
      rw [appG_lt (by unfold addG at h1; exact h1), appG_lt (by unfold addG at h1; exact h1)] at this
      have h4 := hit_not.1 (t3 _ h1)
      unfold addG at h4
      exact h4 this
    · exact h1
    · exfalso
      rw [a3 _ h1] at hl; cases hl

theorem add_fnd {n : Nat} {g : Nat → Nat → Int} {s p : Int} (a c : Int) (h : Dist n g) (hn : n ≤ 8) :
    fnd (addN n g s p) (addG n g s p a c) s p = true ∧ fndI (addN n g s p) (addG n g s p a c) s p 2 = a ∧ fndI (addN n g s p) (addG n g s p a c) s p 3 = 0 ∧ fndI (addN n g s p) (addG n g s p a c) s p 4 = c := by
  obtain ⟨a1, a2, a3⟩ := add_all (s := s) (p := p) a c h hn
  obtain ⟨_, _, r2, r3, r4⟩ := row_at s p a c
  have hf : fnd (addN n g s p) (addG n g s p a c) s p = true := decide_eq_true (by rw [a3]; exact Nat.lt_succ_self _)
  unfold fndI
  rw [hf, cond_true, cond_true, cond_true, a3]
  unfold addG
  rw [appG_at, appG_at, appG_at, r2, r3, r4]
  exact ⟨rfl, rfl, rfl, rfl⟩
theorem add_again {n : Nat} {g : Nat → Nat → Int} {s p : Int} (a c : Int) (h : Dist n g) (hn : n ≤ 8) : addN (addN n g s p) (addG n g s p a c) s p = addN n g s p := by
  obtain ⟨hf, _⟩ := add_fnd (s := s) (p := p) a c h hn
  have t1 := (two_all (s := s) (p := p) h hn).1
  have hx : addN n g s p = twoN n g s p + 1 := rfl
  unfold addN twoN oneN at *
  rw [hf, cond_true]
  rw [decide_eq_false (by omega), cond_false]
  omega

def stN (n : Nat) (g : Nat → Nat → Int) (s p a c : Int) : Nat := addN (addN n g s p) (addG n g s p a c) s p
def stG (n : Nat) (g : Nat → Nat → Int) (s p a c : Int) : Nat → Nat → Int := addG (addN n g s p) (addG n g s p a c) s p 7 0
def finP (x0 : Nat) (o : Nat → Nat → Int) : Nat → Nat → Nat → (Nat → Nat → Int) → Nat × (Nat → Nat → Int)
  | 0, _, n, g => (n, g)
  | m + 1, i, n, g => finP x0 o m (i + 1) (stN n g (o (x0 + i) 1) (o (x0 + i) 2) (o (x0 + i) 3) (o (x0 + i) 5)) (stG n g (o (x0 + i) 1) (o (x0 + i) 2) (o (x0 + i) 3) (o (x0 + i) 5))

def pre6 (x3 : Int) (n : Nat) (g : Nat → Nat → Int) : Prop := 0 ≤ x3 ∧ n ≤ 8 ∧ Dist n g
noncomputable def O_TlbForgets_6 (x0 x1 : Nat) (x2 : Bool) (x3 : Int) (n4 : Nat) (g4 : Nat → Nat → Int) (n5 : Nat) (g5 : Nat → Nat → Int) : Tr (Ex × List At) :=
  .br 0 (pdec (pre6 x3 n5 g5)) (.ok (.exit 0, [.n x0, .n x1, .b x2, .r n4 g4, .r (finP x0 g4 (min x1 50 - x3.toNat) x3.toNat n5 g5).1 (finP x0 g4 (min x1 50 - x3.toNat) x3.toNat n5 g5).2])) .no
noncomputable def OL_TlbForgets_6 (l : List At) : Tr (Ex × List At) := O_TlbForgets_6 (aN l 0) (aN l 1) (aB l 2) (aI l 3) (aRn l 4) (aRg l 4) (aRn l 5) (aRg l 5)
def μ_TlbForgets_6 (l : List At) : Nat := ((aN l 1 : Int) - aI l 3).toNat

theorem rd_TlbForgets_6 : ∀ l r, (OL_TlbForgets_6 l).val = some r → RoundS BL_TlbForgets_6 OL_TlbForgets_6 μ_TlbForgets_6 l r := by
  intro l r h
  obtain ⟨hc, h⟩ := guard_val h
  obtain ⟨c0, c1, c2⟩ := of_pdec hc
  have hr := val_ok h
  unfold RoundS BL_TlbForgets_6 B_TlbForgets_6 TlbForgets_6_c0
  have stop : ¬ (aI l 3 < aN l 1 ∧ aI l 3 < 50) → (Tr.ok (Ex.exit 0, [At.n (aN l 0), At.n (aN l 1), At.b (aB l 2), At.r (aRn l 4) (aRg l 4), At.r (aRn l 5) (aRg l 5)])).sat fun p => (p.1 = .normal ∧ ∃ l2 r', AtsEq p.2 l2 ∧ μ_TlbForgets_6 l2 < μ_TlbForgets_6 l ∧ (OL_TlbForgets_6 l2).val = some r' ∧ r'.1 = r.1 ∧ AtsEq r'.2 r.2) ∨ (p.1 ≠ .normal ∧ r.1 = p.1 ∧ AtsEq p.2 r.2) := by
    intro hs
    have e : min (aN l 1) 50 - (aI l 3).toNat = 0 := by omega
    rw [e] at hr
    subst hr
    exact out_ (by simp) rfl (AtsEq.refl _)
  refine brD (fun h1 => brD (fun h2 => ?_) (fun h2 => stop (by omega))) (fun h1 => stop (by omega))
  have hw : IntKind.i64.wrap (aI l 3 + 1) = aI l 3 + 1 := wrap_i64 (by omega) (by omega)
  have win : within (aI l 3) (aN l 1) = true := by simp only [within, Bool.and_eq_true, decide_eq_true_eq]; omega
  obtain ⟨a1, a2, _⟩ := add_all (s := aRg l 4 (aN l 0 + (aI l 3).toNat) 1) (p := aRg l 4 (aN l 0 + (aI l 3).toNat) 2) (aRg l 4 (aN l 0 + (aI l 3).toNat) 3) (aRg l 4 (aN l 0 + (aI l 3).toNat) 5) c2 c1
  obtain ⟨b1, b2, _⟩ := add_all (s := aRg l 4 (aN l 0 + (aI l 3).toNat) 1) (p := aRg l 4 (aN l 0 + (aI l 3).toNat) 2) 7 0 a2 a1
  obtain ⟨f1, f2, f3, f4⟩ := add_fnd (s := aRg l 4 (aN l 0 + (aI l 3).toNat) 1) (p := aRg l 4 (aN l 0 + (aI l 3).toNat) 2) 7 0 a2 a1
  have ag := add_again (s := aRg l 4 (aN l 0 + (aI l 3).toNat) 1) (p := aRg l 4 (aN l 0 + (aI l 3).toNat) 2) (aRg l 4 (aN l 0 + (aI l 3).toNat) 3) (aRg l 4 (aN l 0 + (aI l 3).toNat) 5) c2 c1
  rw [f1, f2, f3, f4]
  refine brT win (brT win (brT win (brT (decide_eq_true c1) (brT win (brT win (brT (decide_eq_true a1) (brT win (brT win (brT (decide_eq_true (by omega)) (brF ?_ (brF rfl (brF rfl ?_))))))))))))
  · rw [ag]; exact bne_self_eq_false _
  · rw [hw]
    refine on_ _ r (AtsEq.refl _) ?_ ?_ rfl (AtsEq.refl _)
    · show ((aN l 1 : Int) - (aI l 3 + 1)).toNat < ((aN l 1 : Int) - aI l 3).toNat
      omega
    · refine (br_t (g := 0) (pdec_yes ⟨by show 0 ≤ aI l 3 + 1; omega, b1, b2⟩)).trans ?_
      rw [show min (aN l 1) 50 - (aI l 3).toNat = (min (aN l 1) 50 - (aI l 3 + 1).toNat) + 1 by omega, finP, show (aI l 3).toNat + 1 = (aI l 3 + 1).toNat by omega] at h
      exact h
end Go.Proofs.Ytimdpdkgiibndaa.G
end

/-
  What functions of the seat compute, printed by a program from the explorer.
-/
section
namespace Go.Proofs.Ytimdpdkgiibndaa.G
open Go Go.AM Go.Proofs
/-! ### the loop at 15 of TlbLast -/

def lsh_TlbLast_15 : FSh := ⟨[.v false [.sq 0 6], .any, .any, .any, .v false [.p 1 0], .v false [.k (.n .i64)], .v false [.k (.n .i64)], .v false [.k (.n .i64)], .v false [.k .b], .v false [.k (.n .i64)], .any, .any, .any, .any, .any, .any, .any, .any, .any, .any, .any, .any, .any, .any, .any, .any, .any, .any, .any, .any, .any, .any, .any, .any, .any, .any, .any, .any, .any, .any, .any, .any, .any, .any, .any, .any, .any, .any, .any, .any, .any, .any, .any, .any, .any, .any, .any, .any, .any, .any, .any, .any, .any, .any, .any, .any, .any, .any, .any, .any, .any, .any, .any, .any, .any, .any, .any, .any, .any, .any, .any, .any, .any, .any, .any, .any, .any, .any, .any, .any, .any, .any, .any, .any, .any, .any, .any, .any, .any, .any, .any, .any, .any, .any, .any, .any, .any, .any, .any, .any, .any, .any, .any, .any, .any, .any, .any, .any, .any, .any, .any, .any, .any, .any, .any, .any, .any, .any, .any, .any, .any, .any, .any, .any, .any, .any, .any, .any, .any, .any, .any, .any, .any, .any, .any, .any, .any, .any], [.rows [.n .i64, .n .u64, .n .u64, .n .i64, .n .i64, .n .i64] false, .cells [.sw 2 5], .rows [.n .u64, .n .u64, .n .i64, .n .i64, .n .i64] true]⟩
def xsh_TlbLast_15_0 : FSh := ⟨[.v false [.sq 0 6], .any, .any, .any, .v false [.p 1 0], .v false [.k (.n .i64)], .v false [.k (.n .i64)], .v false [.k (.n .i64)], .v false [.k .b], .any, .any, .any, .any, .any, .any, .any, .any, .any, .any, .any, .any, .any, .any, .any, .any, .any, .any, .any, .any, .any, .any, .any, .any, .any, .any, .any, .any, .any, .any, .any, .any, .any, .any, .any, .any, .any, .any, .any, .any, .any, .any, .any, .any, .any, .any, .any, .any, .any, .any, .any, .any, .any, .any, .any, .any, .any, .any, .any, .any, .any, .any, .any, .any, .any, .any, .any, .any, .any, .any, .any, .any, .any, .any, .any, .any, .any, .any, .any, .any, .any, .any, .any, .any, .any, .any, .any, .any, .any, .any, .any, .any, .any, .any, .any, .any, .any, .any, .any, .any, .any, .any, .any, .any, .any, .any, .any, .any, .any, .any, .any, .any, .any, .any, .any, .any, .any, .any, .any, .any, .any, .any, .any, .any, .any, .any, .any, .any, .any, .any, .any, .any, .any, .any, .any, .any, .any, .any, .any], [.rows [.n .i64, .n .u64, .n .u64, .n .i64, .n .i64, .n .i64] false, .cells [.sw 2 5], .rows [.n .u64, .n .u64, .n .i64, .n .i64, .n .i64] true]⟩
def xs_TlbLast_15 : Exs := fun e => match e with
  | .normal => some lsh_TlbLast_15
  | .exit n => (match Nat.beq n 4 with | true => some xsh_TlbLast_15_0 | false => none)
  | .ret => none
def B_TlbLast_15 (x0 : Nat) (x1 : Nat) (x2 : Int) (x3 : Int) (x4 : Int) (x5 : Bool) (x6 : Int) (n7 : Nat) (g7 : Nat → Nat → Int) (n8 : Nat) (g8 : Nat → Nat → Int) : Tr (Ex × List At) :=
 .br 60 (decide (x6 ≤ x2))
 (.br 64 (x5)
 (.br 67 (within x6 x1)
 (.br 72 (within x4 x1)
 (.br 76 (g7 (x0 + Int.toNat x6) (1 : Nat) != g7 (x0 + Int.toNat x4) (1 : Nat))
 (.ok (.normal, [(.n (x0)), (.n (x1)), (.i (x2)), (.i (x3)), (.i (x4)), (.b (true)), (.i (IntKind.wrap IntKind.i64 (x6 + (1 : Int)))), (.r (n7) (g7)), (.r (n8) (g8))]))
 (.br 79 (within x6 x1)
 (.br 84 (within x4 x1)
 (.ok (.normal, [(.n (x0)), (.n (x1)), (.i (x2)), (.i (x3)), (.i (x4)), (.b (g7 (x0 + Int.toNat x6) (2 : Nat) != g7 (x0 + Int.toNat x4) (2 : Nat))), (.i (IntKind.wrap IntKind.i64 (x6 + (1 : Int)))), (.r (n7) (g7)), (.r (n8) (g8))]))
 (.no))
 (.no)))
 (.no))
 (.no))
 (.ok (.normal, [(.n (x0)), (.n (x1)), (.i (x2)), (.i (x3)), (.i (x4)), (.b (false)), (.i (IntKind.wrap IntKind.i64 (x6 + (1 : Int)))), (.r (n7) (g7)), (.r (n8) (g8))])))
 (.ok (.exit 4, [(.n (x0)), (.n (x1)), (.i (x2)), (.i (x3)), (.i (x4)), (.b (x5)), (.r (n7) (g7)), (.r (n8) (g8))]))
def y_TlbLast_15 : Nat → Option Nat := (syOf3 [60, 64, 67, 72, 76, 79, 84] [] [])
def BL_TlbLast_15 (l : List At) : Tr (Ex × List At) := B_TlbLast_15 (aN l 0) (aN l 1) (aI l 2) (aI l 3) (aI l 4) (aB l 5) (aI l 6) (aRn l 7) (aRg l 7) (aRn l 8) (aRg l 8)
theorem eB_TlbLast_15 (l : List At) : (exec Try.prog Γ_shown y_TlbLast_15 noLoops 100 (loopAt Try.f3 15) ⟨mkV lsh_TlbLast_15 l, mkH lsh_TlbLast_15 l⟩).bind (leafL 1 xs_TlbLast_15) = BL_TlbLast_15 l := by kernel_rfl
/- by hand: O_TlbLast_15 (x0 : Nat) (x1 : Nat) (x2 : Int) (x3 : Int) (x4 : Int) (x5 : Bool) (x6 : Int) (n7 : Nat) (g7 : Nat → Nat → Int) (n8 : Nat) (g8 : Nat → Nat → Int) : Tr (Ex × List At); OL_TlbLast_15 (l) := O_TlbLast_15 (aN l 0) (aN l 1) (aI l 2) (aI l 3) (aI l 4) (aB l 5) (aI l 6) (aRn l 7) (aRg l 7) (aRn l 8) (aRg l 8); μ_TlbLast_15 : List At → Nat; rd_TlbLast_15 : ∀ l r, (OL_TlbLast_15 l).val = some r → RoundA BL_TlbLast_15 OL_TlbLast_15 μ_TlbLast_15 l r -/

end Go.Proofs.Ytimdpdkgiibndaa.G
end

/-
  What the loop that looks for a later call of the same key comes to.
-/
section
namespace Go.Proofs.Ytimdpdkgiibndaa.G
open Go Go.AM Go.Proofs

def neK (o : Nat → Nat → Int) (a b : Nat) : Bool := bif o a 1 != o b 1 then true else o a 2 != o b 2
def allNe (o : Nat → Nat → Int) (x0 k : Nat) : Nat → Nat → Bool → Bool
  | 0, _, b => b
  | m + 1, j, b => allNe o x0 k m (j + 1) (bif b then neK o (x0 + j) (x0 + k) else false)

def O_TlbLast_15 (x0 x1 : Nat) (x2 x3 x4 : Int) (x5 : Bool) (x6 : Int) (n7 : Nat) (g7 : Nat → Nat → Int) (n8 : Nat) (g8 : Nat → Nat → Int) : Tr (Ex × List At) :=
  .br 0 (decide (0 ≤ x4 ∧ x4 < x1 ∧ 0 ≤ x6 ∧ x2 < x1 ∧ x2 ≤ 100)) (.ok (.exit 4, [.n x0, .n x1, .i x2, .i x3, .i x4, .b (allNe g7 x0 x4.toNat (x2 + 1 - x6).toNat x6.toNat x5), .r n7 g7, .r n8 g8])) .no
def OL_TlbLast_15 (l : List At) : Tr (Ex × List At) := O_TlbLast_15 (aN l 0) (aN l 1) (aI l 2) (aI l 3) (aI l 4) (aB l 5) (aI l 6) (aRn l 7) (aRg l 7) (aRn l 8) (aRg l 8)
def μ_TlbLast_15 (l : List At) : Nat := (aI l 2 + 1 - aI l 6).toNat

theorem rd_TlbLast_15 : ∀ l r, (OL_TlbLast_15 l).val = some r → RoundS BL_TlbLast_15 OL_TlbLast_15 μ_TlbLast_15 l r := by
  intro l r h
  obtain ⟨hc, h⟩ := guard_val h
  have hc : 0 ≤ aI l 4 ∧ aI l 4 < aN l 1 ∧ 0 ≤ aI l 6 ∧ aI l 2 < aN l 1 ∧ aI l 2 ≤ 100 := of_decide_eq_true hc
  obtain ⟨c0, c1, c2, c3, c4⟩ := hc
  have hr := val_ok h
  unfold RoundS BL_TlbLast_15 B_TlbLast_15
  refine brD (fun h1 => ?_) (fun h1 => ?_)
  · have hw : IntKind.i64.wrap (aI l 6 + 1) = aI l 6 + 1 := wrap_i64 (by omega) (by omega)
    have w6 : within (aI l 6) (aN l 1) = true := by simp only [within, Bool.and_eq_true, decide_eq_true_eq]; omega
    have w4 : within (aI l 4) (aN l 1) = true := by simp only [within, Bool.and_eq_true, decide_eq_true_eq]; omega
    have hm : (aI l 2 + 1 - aI l 6).toNat = (aI l 2 + 1 - (aI l 6 + 1)).toNat + 1 := by omega
    have hs : (aI l 6).toNat + 1 = (aI l 6 + 1).toNat := by omega
    have on : ∀ b : Bool, b = (bif aB l 5 then neK (aRg l 7) (aN l 0 + (aI l 6).toNat) (aN l 0 + (aI l 4).toNat) else false) →
        (Tr.ok (Ex.normal, [At.n (aN l 0), At.n (aN l 1), At.i (aI l 2), At.i (aI l 3), At.i (aI l 4), At.b b, At.i (aI l 6 + 1), At.r (aRn l 7) (aRg l 7), At.r (aRn l 8) (aRg l 8)])).sat fun p => (p.1 = .normal ∧ ∃ l2 r', AtsEq p.2 l2 ∧ μ_TlbLast_15 l2 < μ_TlbLast_15 l ∧ (OL_TlbLast_15 l2).val = some r' ∧ r'.1 = r.1 ∧ AtsEq r'.2 r.2) ∨ (p.1 ≠ .normal ∧ r.1 = p.1 ∧ AtsEq p.2 r.2) := by
      intro b hb
      refine on_ _ r (AtsEq.refl _) ?_ ?_ rfl (AtsEq.refl _)
      · show (aI l 2 + 1 - (aI l 6 + 1)).toNat < (aI l 2 + 1 - aI l 6).toNat
        omega
      · rw [hm, allNe, ← hb, hs] at h
        exact (br_t (g := 0) (decide_eq_true (show 0 ≤ aI l 4 ∧ aI l 4 < aN l 1 ∧ 0 ≤ aI l 6 + 1 ∧ aI l 2 < aN l 1 ∧ aI l 2 ≤ 100 from ⟨c0, c1, by omega, c3, c4⟩))).trans h
    rw [hw]
    refine brC (fun h5 => brT w6 (brT w4 (brC (fun h7 => on _ ?_) (fun h7 => brT w6 (brT w4 (on _ ?_)))))) (fun h5 => on _ ?_)
    · rw [h5, cond_true]; unfold neK; rw [h7, cond_true]
    · rw [h5, cond_true]; unfold neK; rw [h7, cond_false]
    · rw [h5, cond_false]
  · have e : (aI l 2 + 1 - aI l 6).toNat = 0 := by omega
    rw [e] at hr
    subst hr
    exact out_ (by simp) rfl (AtsEq.refl _)
end Go.Proofs.Ytimdpdkgiibndaa.G
end

/-
  What functions of the seat compute, printed by a program from the explorer.
-/
section
namespace Go.Proofs.Ytimdpdkgiibndaa.G
open Go Go.AM Go.Proofs
theorem f_TlbLast_15 : LoopF Try.prog 1 (loopAt Try.f3 15) (loopFn 1 lsh_TlbLast_15 xs_TlbLast_15 OL_TlbLast_15) :=
  loop_sat (sy := y_TlbLast_15) (fuel := 100) (Lp := noLoops) o_shown mixed (loopsOK_at (noLoops_ok _) 15) rfl eB_TlbLast_15 rd_TlbLast_15
noncomputable def Lp_TlbLast_15 : Loops := Loops.set noLoops 15 (loopFn 1 lsh_TlbLast_15 xs_TlbLast_15 OL_TlbLast_15)
theorem lk_TlbLast_15 : LoopsFn Try.prog 1 Lp_TlbLast_15 Try.f3 := loopsFn_set (noLoops_ok _) (by kernel_rfl) f_TlbLast_15

/-! ### the loop at 11 of TlbLast -/

noncomputable def lsh_TlbLast_11 : FSh := ⟨[.v false [.sq 0 6], .any, .any, .any, .v false [.p 1 0], .v false [.k (.n .i64)], .v false [.k (.n .i64)], .v false [.k (.n .i64)], .any, .any, .any, .any, .any, .any, .any, .any, .any, .any, .any, .any, .any, .any, .any, .any, .any, .any, .any, .any, .any, .any, .any, .any, .any, .any, .any, .any, .any, .any, .any, .any, .any, .any, .any, .any, .any, .any, .any, .any, .any, .any, .any, .any, .any, .any, .any, .any, .any, .any, .any, .any, .any, .any, .any, .any, .any, .any, .any, .any, .any, .any, .any, .any, .any, .any, .any, .any, .any, .any, .any, .any, .any, .any, .any, .any, .any, .any, .any, .any, .any, .any, .any, .any, .any, .any, .any, .any, .any, .any, .any, .any, .any, .any, .any, .any, .any, .any, .any, .any, .any, .any, .any, .any, .any, .any, .any, .any, .any, .any, .any, .any, .any, .any, .any, .any, .any, .any, .any, .any, .any, .any, .any, .any, .any, .any, .any, .any, .any, .any, .any, .any, .any, .any, .any, .any, .any, .any, .any, .any], [.rows [.n .i64, .n .u64, .n .u64, .n .i64, .n .i64, .n .i64] false, .cells [.sw 2 5], .rows [.n .u64, .n .u64, .n .i64, .n .i64, .n .i64] true]⟩
noncomputable def xsh_TlbLast_11_0 : FSh := ⟨[.v false [.sq 0 6], .any, .any, .any, .v false [.p 1 0], .v false [.k (.n .i64)], .v false [.k (.n .i64)], .any, .any, .any, .any, .any, .any, .any, .any, .any, .any, .any, .any, .any, .any, .any, .any, .any, .any, .any, .any, .any, .any, .any, .any, .any, .any, .any, .any, .any, .any, .any, .any, .any, .any, .any, .any, .any, .any, .any, .any, .any, .any, .any, .any, .any, .any, .any, .any, .any, .any, .any, .any, .any, .any, .any, .any, .any, .any, .any, .any, .any, .any, .any, .any, .any, .any, .any, .any, .any, .any, .any, .any, .any, .any, .any, .any, .any, .any, .any, .any, .any, .any, .any, .any, .any, .any, .any, .any, .any, .any, .any, .any, .any, .any, .any, .any, .any, .any, .any, .any, .any, .any, .any, .any, .any, .any, .any, .any, .any, .any, .any, .any, .any, .any, .any, .any, .any, .any, .any, .any, .any, .any, .any, .any, .any, .any, .any, .any, .any, .any, .any, .any, .any, .any, .any, .any, .any, .any, .any, .any, .any], [.rows [.n .i64, .n .u64, .n .u64, .n .i64, .n .i64, .n .i64] false, .cells [.sw 2 5], .rows [.n .u64, .n .u64, .n .i64, .n .i64, .n .i64] true]⟩
noncomputable def xs_TlbLast_11 : Exs := fun e => match e with
  | .normal => some lsh_TlbLast_11
  | .exit n => (match Nat.beq n 2 with | true => some xsh_TlbLast_11_0 | false => none)
  | .ret => none
noncomputable def B_TlbLast_11 (x0 : Nat) (x1 : Nat) (x2 : Int) (x3 : Int) (x4 : Int) (n5 : Nat) (g5 : Nat → Nat → Int) (n6 : Nat) (g6 : Nat → Nat → Int) : Tr (Ex × List At) :=
 .br 50 (decide (x4 ≥ (0 : Int)))
 (.br 53 (decide (x3 < (8 : Int)))
 (.br 0 (decide ((0 : Int) ≤ x4 ∧ x4 < (↑x1 : Int) ∧ (0 : Int) ≤ IntKind.wrap IntKind.i64 (x4 + (1 : Int)) ∧ x2 < (↑x1 : Int) ∧ x2 ≤ (100 : Int)))
 (.br 91 (!allNe g5 x0 (Int.toNat x4) (Int.toNat (x2 + (1 : Int) - IntKind.wrap IntKind.i64 (x4 + (1 : Int)))) (Int.toNat (IntKind.wrap IntKind.i64 (x4 + (1 : Int)))) true)
 (.ok (.normal, [(.n (x0)), (.n (x1)), (.i (x2)), (.i (x3)), (.i (IntKind.wrap IntKind.i64 (x4 - (1 : Int)))), (.r (n5) (g5)), (.r (n6) (g6))]))
 (.br 98 (within x4 x1)
 (.br 103 (within x4 x1)
 (.br 0 (decide (n6 ≤ (4611686018427387904 : Nat)))
 (.br 111 (!fnd n6 g6 (g5 (x0 + Int.toNat x4) (1 : Nat)) (g5 (x0 + Int.toNat x4) (2 : Nat)))
 (.no)
 (.br 116 (within x4 x1)
 (.br 122 (fndI n6 g6 (g5 (x0 + Int.toNat x4) (1 : Nat)) (g5 (x0 + Int.toNat x4) (2 : Nat)) (2 : Nat) != g5 (x0 + Int.toNat x4) (3 : Nat))
 (.no)
 (.br 127 (within x4 x1)
 (.br 133 (fndI n6 g6 (g5 (x0 + Int.toNat x4) (1 : Nat)) (g5 (x0 + Int.toNat x4) (2 : Nat)) (4 : Nat) != g5 (x0 + Int.toNat x4) (5 : Nat))
 (.no)
 (.br 137 (fndI n6 g6 (g5 (x0 + Int.toNat x4) (1 : Nat)) (g5 (x0 + Int.toNat x4) (2 : Nat)) (3 : Nat) != (0 : Int))
 (.no)
 (.ok (.normal, [(.n (x0)), (.n (x1)), (.i (x2)), (.i (IntKind.wrap IntKind.i64 (x3 + (1 : Int)))), (.i (IntKind.wrap IntKind.i64 (x4 - (1 : Int)))), (.r (n5) (g5)), (.r (n6) (g6))]))))
 (.no)))
 (.no)))
 (.no))
 (.no))
 (.no)))
 (.no))
 (.ok (.exit 2, [(.n (x0)), (.n (x1)), (.i (x2)), (.i (x3)), (.r (n5) (g5)), (.r (n6) (g6))])))
 (.ok (.exit 2, [(.n (x0)), (.n (x1)), (.i (x2)), (.i (x3)), (.r (n5) (g5)), (.r (n6) (g6))]))
noncomputable def y_TlbLast_11 : Nat → Option Nat := (syOf3 [50, 53, 91, 98, 103, 111, 116, 122, 127, 133, 137] [] [])
noncomputable def BL_TlbLast_11 (l : List At) : Tr (Ex × List At) := B_TlbLast_11 (aN l 0) (aN l 1) (aI l 2) (aI l 3) (aI l 4) (aRn l 5) (aRg l 5) (aRn l 6) (aRg l 6)
theorem eB_TlbLast_11 (l : List At) : (exec Try.prog Γ_shown y_TlbLast_11 Lp_TlbLast_15 100 (loopAt Try.f3 11) ⟨mkV lsh_TlbLast_11 l, mkH lsh_TlbLast_11 l⟩).bind (leafL 1 xs_TlbLast_11) = BL_TlbLast_11 l := by kernel_rfl
/- by hand: O_TlbLast_11 (x0 : Nat) (x1 : Nat) (x2 : Int) (x3 : Int) (x4 : Int) (n5 : Nat) (g5 : Nat → Nat → Int) (n6 : Nat) (g6 : Nat → Nat → Int) : Tr (Ex × List At); OL_TlbLast_11 (l) := O_TlbLast_11 (aN l 0) (aN l 1) (aI l 2) (aI l 3) (aI l 4) (aRn l 5) (aRg l 5) (aRn l 6) (aRg l 6); μ_TlbLast_11 : List At → Nat; rd_TlbLast_11 : ∀ l r, (OL_TlbLast_11 l).val = some r → RoundA BL_TlbLast_11 OL_TlbLast_11 μ_TlbLast_11 l r -/

end Go.Proofs.Ytimdpdkgiibndaa.G
end

/-
  The cache as the last calls of their keys; what the loop that looks for each of them comes to.
-/
section
namespace Go.Proofs.Ytimdpdkgiibndaa.G
open Go Go.AM Go.Proofs

/-- Two calls of one key. -/
def KE (o : Nat → Nat → Int) (a b : Nat) : Prop := o a 1 = o b 1 ∧ o a 2 = o b 2
/-- The call 'k' is the last of its key of those before 'i'. -/
def Lst (o : Nat → Nat → Int) (x0 k i : Nat) : Prop := ∀ m, k < m → m < i → ¬ KE o (x0 + m) (x0 + k)

theorem neK_iff {o : Nat → Nat → Int} {a b : Nat} : neK o a b = true ↔ ¬ KE o a b := by
  unfold neK KE
  cases h : (o a 1 != o b 1) with
  | true =>
    simp only [bne_iff_ne] at h
    simp [h]
  | false =>
    have h : o a 1 = o b 1 := by simpa using h
    simp [h]
theorem allNe_iff {o : Nat → Nat → Int} {x0 k : Nat} : ∀ (m j : Nat) (b : Bool), allNe o x0 k m j b = true ↔ b = true ∧ ∀ t, j ≤ t → t < j + m → ¬ KE o (x0 + t) (x0 + k)
  | 0, j, b => by
    rw [allNe]
    exact ⟨fun h => ⟨h, fun t h1 h2 => by omega⟩, fun h => h.1⟩
  | m + 1, j, b => by
    rw [allNe, allNe_iff m (j + 1)]
    cases b with
    | false => simp
    | true =>
      simp only [cond_true, true_and]
      rw [neK_iff]
      constructor
      · rintro ⟨h1, h2⟩ t h3 h4
        rcases Nat.eq_or_lt_of_le h3 with e | e
        · subst e; exact h1
        · exact h2 t e (by omega)
      · intro h
        exact ⟨h j (Nat.le_refl _) (by omega), fun t h1 h2 => h t (by omega) (by omega)⟩

def lstB (o : Nat → Nat → Int) (x0 i k : Nat) : Bool := allNe o x0 k (i - k) (k + 1) true
theorem lstB_iff {o : Nat → Nat → Int} {x0 i k : Nat} (h : k ≤ i) : lstB o x0 i k = true ↔ Lst o x0 k (i + 1) := by
  unfold lstB Lst
  rw [allNe_iff]
  simp only [true_and]
  exact ⟨fun hh m h1 h2 => hh m (by omega) (by omega), fun hh t h1 h2 => hh t (by omega) (by omega)⟩

/-- The ways stand for the last calls of their keys, in their order, and for all of them or the last eight. -/
structure Rp (o : Nat → Nat → Int) (x0 i n : Nat) (g : Nat → Nat → Int) (J : Nat → Nat) : Prop where
  le : n ≤ 8
  lt : ∀ r, r < n → J r < i
  mono : ∀ r s, r < s → s < n → J r < J s
  row : ∀ r, r < n → g r 0 = o (x0 + J r) 1 ∧ g r 1 = o (x0 + J r) 2 ∧ g r 2 = o (x0 + J r) 3 ∧ g r 3 = 0 ∧ g r 4 = o (x0 + J r) 5
  lst : ∀ r, r < n → Lst o x0 (J r) i
  all : ∀ j, j < i → Lst o x0 j i → (∃ r, r < n ∧ J r = j) ∨ (n = 8 ∧ j < J 0)

theorem Rp.dist {o : Nat → Nat → Int} {x0 i n : Nat} {g : Nat → Nat → Int} {J : Nat → Nat} (h : Rp o x0 i n g J) : Dist n g := by
  intro r s h1 h2 h3
  obtain ⟨a0, a1, _⟩ := h.row r (by omega)
  obtain ⟨b0, b1, _⟩ := h.row s h2
  exact h.lst r (by omega) (J s) (h.mono r s h1 h2) (h.lt s h2) ⟨by rw [← b0, ← h3.1, a0], by rw [← b1, ← h3.2, a1]⟩

def MidP (o : Nat → Nat → Int) (x0 i n : Nat) (g : Nat → Nat → Int) (k c : Nat) : Prop :=
  ∃ J, Rp o x0 (i + 1) n g J ∧ c ≤ n ∧ ∀ r, r < n → (n ≤ r + c → k ≤ J r) ∧ (r + c < n → J r < k)

theorem mid_no {o : Nat → Nat → Int} {x0 i n k c : Nat} {g : Nat → Nat → Int} (h : MidP o x0 i n g (k + 1) c) (hl : ¬ Lst o x0 k (i + 1)) : MidP o x0 i n g k c := by
  obtain ⟨J, hr, hc, hm⟩ := h
  refine ⟨J, hr, hc, fun r h1 => ⟨fun h2 => by have := (hm r h1).1 h2; omega, fun h2 => ?_⟩⟩
  have h3 := (hm r h1).2 h2
  have h4 : J r ≠ k := fun e => hl (by rw [← e]; exact hr.lst r h1)
  omega
theorem mid_yes {o : Nat → Nat → Int} {x0 i n k c : Nat} {g : Nat → Nat → Int} (h : MidP o x0 i n g (k + 1) c) (hk : k ≤ i) (h8 : c < 8) (hl : Lst o x0 k (i + 1)) :
    MidP o x0 i n g k (c + 1) ∧ fnd n g (o (x0 + k) 1) (o (x0 + k) 2) = true ∧ fndI n g (o (x0 + k) 1) (o (x0 + k) 2) 2 = o (x0 + k) 3 ∧ fndI n g (o (x0 + k) 1) (o (x0 + k) 2) 3 = 0 ∧ fndI n g (o (x0 + k) 1) (o (x0 + k) 2) 4 = o (x0 + k) 5 := by
  obtain ⟨J, hr, hc, hm⟩ := h
  rcases hr.all k (by omega) hl with ⟨r, h1, h2⟩ | ⟨h1, h2⟩
  · have e1 : r + c < n := by
      rcases Nat.lt_or_ge (r + c) n with e | e
      · exact e
      · have := (hm r h1).1 e; omega
    have e2 : n = r + c + 1 := by
      rcases Nat.lt_or_ge (r + c + 1) n with e | e
      · have a := (hm (r + 1) (by omega)).2 (by omega)
        have b := hr.mono r (r + 1) (by omega) (by omega)
        omega
      · omega
    refine ⟨⟨J, hr, by omega, fun r' h3 => ⟨fun h4 => ?_, fun h4 => ?_⟩⟩, ?_⟩
    · rcases Nat.eq_or_lt_of_le (show r ≤ r' by omega) with e | e
      · subst e; omega
      · have := hr.mono r r' e h3; omega
    · have := hr.mono r' r (by omega) h1; omega
    · obtain ⟨a0, a1, a2, a3, a4⟩ := hr.row r h1
      rw [h2] at a0 a1 a2 a4
      obtain ⟨i1, i2, i3⟩ := idx_spec n g (o (x0 + k) 1) (o (x0 + k) 2)
      have hh : hit g (o (x0 + k) 1) (o (x0 + k) 2) r = true := hit_iff.2 ⟨a0, a1⟩
      have hi : idx n g (o (x0 + k) 1) (o (x0 + k) 2) = r := by
        rcases Nat.lt_trichotomy (idx n g (o (x0 + k) 1) (o (x0 + k) 2)) r with e | e | e
        · exfalso
          have h5 := hit_iff.1 (i2 (by omega))
          exact hr.dist _ r e h1 ⟨by rw [h5.1, a0], by rw [h5.2, a1]⟩
        · exact e
        · exfalso
          rw [i3 r e] at hh; cases hh
      have hf : fnd n g (o (x0 + k) 1) (o (x0 + k) 2) = true := decide_eq_true (by rw [hi]; exact h1)
      unfold fndI
      rw [hf, cond_true, cond_true, cond_true, hi]
      exact ⟨rfl, a2, a3, a4⟩
  · exfalso
    have := (hm 0 (by omega)).2 (by omega)
    omega

def othN (o : Nat → Nat → Int) (x0 i : Nat) : Nat → Nat → Nat
  | 0, c => c
  | k + 1, c => if c < 8 then (bif lstB o x0 i k then othN o x0 i k (c + 1) else othN o x0 i k c) else c
theorem oth_le {o : Nat → Nat → Int} {x0 i n : Nat} {g : Nat → Nat → Int} : ∀ (k c : Nat), k ≤ i + 1 → MidP o x0 i n g k c → othN o x0 i k c ≤ n
  | 0, c, _, ⟨_, _, h, _⟩ => h
  | k + 1, c, hk, h => by
    rw [othN]
    by_cases h8 : c < 8
    · rw [if_pos h8]
      cases hl : lstB o x0 i k with
      | true => exact oth_le k (c + 1) (by omega) (mid_yes h (by omega) h8 ((lstB_iff (by omega)).1 hl)).1
      | false => exact oth_le k c (by omega) (mid_no h (fun hh => by rw [(lstB_iff (by omega)).2 hh] at hl; cases hl))
    · rw [if_neg h8]
      obtain ⟨_, _, h, _⟩ := h
      exact h

def pre11 (x0 x1 : Nat) (x2 x3 x4 : Int) (o : Nat → Nat → Int) (n : Nat) (g : Nat → Nat → Int) : Prop :=
  0 ≤ x3 ∧ -1 ≤ x4 ∧ x4 ≤ x2 ∧ x2 < x1 ∧ x2 ≤ 100 ∧ 0 ≤ x2 ∧ MidP o x0 x2.toNat n g (x4 + 1).toNat x3.toNat
noncomputable def O_TlbLast_11 (x0 x1 : Nat) (x2 x3 x4 : Int) (n5 : Nat) (g5 : Nat → Nat → Int) (n6 : Nat) (g6 : Nat → Nat → Int) : Tr (Ex × List At) :=
  .br 0 (pdec (pre11 x0 x1 x2 x3 x4 g5 n6 g6)) (.ok (.exit 2, [.n x0, .n x1, .i x2, .i (othN g5 x0 x2.toNat (x4 + 1).toNat x3.toNat : Nat), .r n5 g5, .r n6 g6])) .no
noncomputable def OL_TlbLast_11 (l : List At) : Tr (Ex × List At) := O_TlbLast_11 (aN l 0) (aN l 1) (aI l 2) (aI l 3) (aI l 4) (aRn l 5) (aRg l 5) (aRn l 6) (aRg l 6)
def μ_TlbLast_11 (l : List At) : Nat := (aI l 4 + 1).toNat

theorem rd_TlbLast_11 : ∀ l r, (OL_TlbLast_11 l).val = some r → RoundS BL_TlbLast_11 OL_TlbLast_11 μ_TlbLast_11 l r := by
  intro l r h
  obtain ⟨hc, h⟩ := guard_val h
  obtain ⟨c0, c1, c2, c3, c4, c5, c6⟩ := of_pdec hc
  have hr := val_ok h
  unfold RoundS BL_TlbLast_11 B_TlbLast_11
  have stop : (aI l 4 < 0 ∨ 8 ≤ aI l 3) → (Tr.ok (Ex.exit 2, [At.n (aN l 0), At.n (aN l 1), At.i (aI l 2), At.i (aI l 3), At.r (aRn l 5) (aRg l 5), At.r (aRn l 6) (aRg l 6)])).sat fun p => (p.1 = .normal ∧ ∃ l2 r', AtsEq p.2 l2 ∧ μ_TlbLast_11 l2 < μ_TlbLast_11 l ∧ (OL_TlbLast_11 l2).val = some r' ∧ r'.1 = r.1 ∧ AtsEq r'.2 r.2) ∨ (p.1 ≠ .normal ∧ r.1 = p.1 ∧ AtsEq p.2 r.2) := by
    intro hs
    have e : ((othN (aRg l 5) (aN l 0) (aI l 2).toNat (aI l 4 + 1).toNat (aI l 3).toNat : Nat) : Int) = aI l 3 := by
      rcases hs with h1 | h1
      · rw [show (aI l 4 + 1).toNat = 0 by omega, othN]; omega
      · cases (aI l 4 + 1).toNat with
        | zero => rw [othN]; omega
        | succ k => rw [othN, if_neg (by omega)]; omega
    rw [e] at hr
    subst hr
    exact out_ (by simp) rfl (AtsEq.refl _)
  refine brD (fun h1 => brD (fun h2 => ?_) (fun h2 => stop (.inr (by omega)))) (fun h1 => stop (.inl (by omega)))
  have w1 : IntKind.i64.wrap (aI l 4 + 1) = aI l 4 + 1 := wrap_i64 (by omega) (by omega)
  have w2 : IntKind.i64.wrap (aI l 4 - 1) = aI l 4 - 1 := wrap_i64 (by omega) (by omega)
  have w3 : IntKind.i64.wrap (aI l 3 + 1) = aI l 3 + 1 := wrap_i64 (by omega) (by omega)
  have w4 : within (aI l 4) (aN l 1) = true := by simp only [within, Bool.and_eq_true, decide_eq_true_eq]; omega
  have k1 : (aI l 4 + 1).toNat = (aI l 4).toNat + 1 := by omega
  have k2 : (aI l 2 + 1 - (aI l 4 + 1)).toNat = (aI l 2).toNat - (aI l 4).toNat := by omega
  have k3 : (aI l 4 - 1 + 1).toNat = (aI l 4).toNat := by omega
  have k4 : (aI l 3 + 1).toNat = (aI l 3).toNat + 1 := by omega
  rw [k1] at c6
  rw [w1, w2, w3, k2, k1]
  refine brT (decide_eq_true (by omega)) ?_
  show (Tr.br 91 (!lstB (aRg l 5) (aN l 0) (aI l 2).toNat (aI l 4).toNat) _ _).sat _
  rw [k1, othN, if_pos (show (aI l 3).toNat < 8 by omega)] at h
  cases hl : lstB (aRg l 5) (aN l 0) (aI l 2).toNat (aI l 4).toNat with
  | false =>
    have hm := mid_no c6 (fun hh => by rw [(lstB_iff (by omega)).2 hh] at hl; cases hl)
    refine brT rfl ?_
    rw [hl, cond_false] at h
    refine on_ _ r (AtsEq.refl _) ?_ ?_ rfl (AtsEq.refl _)
    · show (aI l 4 - 1 + 1).toNat < (aI l 4 + 1).toNat
      omega
    · refine (br_t (g := 0) (pdec_yes ⟨c0, show -1 ≤ aI l 4 - 1 by omega, show aI l 4 - 1 ≤ aI l 2 by omega, c3, c4, c5, ?_⟩)).trans ?_
      · show (Tr.ok (Ex.exit 2, [At.n (aN l 0), At.n (aN l 1), At.i (aI l 2), At.i (othN (aRg l 5) (aN l 0) (aI l 2).toNat (aI l 4 - 1 + 1).toNat (aI l 3).toNat : Nat), At.r (aRn l 5) (aRg l 5), At.r (aRn l 6) (aRg l 6)])).val = some r
        rw [k3]; exact h
      · show MidP _ _ _ _ _ (aI l 4 - 1 + 1).toNat _
        rw [k3]; exact hm
  | true =>
    obtain ⟨hm, f1, f2, f3, f4⟩ := mid_yes c6 (by omega) (by omega) ((lstB_iff (by omega)).1 hl)
    have h6 : aRn l 6 ≤ 8 := by obtain ⟨_, hj, _⟩ := c6; exact hj.le
    rw [f1, f2, f3, f4]
    refine brF rfl (brT w4 (brT w4 (brT (decide_eq_true (by omega)) (brF rfl (brT w4 (brF (bne_self_eq_false _) (brT w4 (brF (bne_self_eq_false _) (brF rfl ?_)))))))))
    rw [hl, cond_true] at h
    refine on_ _ r (AtsEq.refl _) ?_ ?_ rfl (AtsEq.refl _)
    · show (aI l 4 - 1 + 1).toNat < (aI l 4 + 1).toNat
      omega
    · refine (br_t (g := 0) (pdec_yes ⟨show 0 ≤ aI l 3 + 1 by omega, show -1 ≤ aI l 4 - 1 by omega, show aI l 4 - 1 ≤ aI l 2 by omega, c3, c4, c5, ?_⟩)).trans ?_
      · show (Tr.ok (Ex.exit 2, [At.n (aN l 0), At.n (aN l 1), At.i (aI l 2), At.i (othN (aRg l 5) (aN l 0) (aI l 2).toNat (aI l 4 - 1 + 1).toNat (aI l 3 + 1).toNat : Nat), At.r (aRn l 5) (aRg l 5), At.r (aRn l 6) (aRg l 6)])).val = some r
        rw [k3, k4]; exact h
      · show MidP _ _ _ _ _ (aI l 4 - 1 + 1).toNat (aI l 3 + 1).toNat
        rw [k3, k4]; exact hm
end Go.Proofs.Ytimdpdkgiibndaa.G
end

/-
  What functions of the seat compute, printed by a program from the explorer.
-/
section
namespace Go.Proofs.Ytimdpdkgiibndaa.G
open Go Go.AM Go.Proofs
theorem f_TlbLast_11 : LoopF Try.prog 1 (loopAt Try.f3 11) (loopFn 1 lsh_TlbLast_11 xs_TlbLast_11 OL_TlbLast_11) :=
  loop_sat (sy := y_TlbLast_11) (fuel := 100) (Lp := Lp_TlbLast_15) o_shown mixed (loopsOK_at lk_TlbLast_15 11) rfl eB_TlbLast_11 rd_TlbLast_11
noncomputable def Lp_TlbLast_11 : Loops := Loops.set Lp_TlbLast_15 11 (loopFn 1 lsh_TlbLast_11 xs_TlbLast_11 OL_TlbLast_11)
theorem lk_TlbLast_11 : LoopsFn Try.prog 1 Lp_TlbLast_11 Try.f3 := loopsFn_set lk_TlbLast_15 (by kernel_rfl) f_TlbLast_11

/-! ### the loop at 6 of TlbLast -/

noncomputable def lsh_TlbLast_6 : FSh := ⟨[.v false [.sq 0 6], .any, .any, .any, .v false [.p 1 0], .v false [.k (.n .i64)], .any, .any, .any, .any, .any, .any, .any, .any, .any, .any, .any, .any, .any, .any, .any, .any, .any, .any, .any, .any, .any, .any, .any, .any, .any, .any, .any, .any, .any, .any, .any, .any, .any, .any, .any, .any, .any, .any, .any, .any, .any, .any, .any, .any, .any, .any, .any, .any, .any, .any, .any, .any, .any, .any, .any, .any, .any, .any, .any, .any, .any, .any, .any, .any, .any, .any, .any, .any, .any, .any, .any, .any, .any, .any, .any, .any, .any, .any, .any, .any, .any, .any, .any, .any, .any, .any, .any, .any, .any, .any, .any, .any, .any, .any, .any, .any, .any, .any, .any, .any, .any, .any, .any, .any, .any, .any, .any, .any, .any, .any, .any, .any, .any, .any, .any, .any, .any, .any, .any, .any, .any, .any, .any, .any, .any, .any, .any, .any, .any, .any, .any, .any, .any, .any, .any, .any, .any, .any, .any, .any, .any, .any], [.rows [.n .i64, .n .u64, .n .u64, .n .i64, .n .i64, .n .i64] false, .cells [.sw 2 5], .rows [.n .u64, .n .u64, .n .i64, .n .i64, .n .i64] true]⟩
noncomputable def xsh_TlbLast_6_0 : FSh := ⟨[.any, .any, .any, .any, .any, .any, .any, .any, .any, .any, .any, .any, .any, .any, .any, .any, .any, .any, .any, .any, .any, .any, .any, .any, .any, .any, .any, .any, .any, .any, .any, .any, .any, .any, .any, .any, .any, .any, .any, .any, .any, .any, .any, .any, .any, .any, .any, .any, .any, .any, .any, .any, .any, .any, .any, .any, .any, .any, .any, .any, .any, .any, .any, .any, .any, .any, .any, .any, .any, .any, .any, .any, .any, .any, .any, .any, .any, .any, .any, .any, .any, .any, .any, .any, .any, .any, .any, .any, .any, .any, .any, .any, .any, .any, .any, .any, .any, .any, .any, .any, .any, .any, .any, .any, .any, .any, .any, .any, .any, .any, .any, .any, .any, .any, .any, .any, .any, .any, .any, .any, .any, .any, .any, .any, .any, .any, .any, .any, .any, .any, .any, .any, .any, .any, .any, .any, .any, .any, .any, .any, .any, .any, .any, .any, .any, .any, .any, .any], [.no]⟩
noncomputable def xs_TlbLast_6 : Exs := fun e => match e with
  | .normal => some lsh_TlbLast_6
  | .exit n => (match Nat.beq n 0 with | true => some xsh_TlbLast_6_0 | false => none)
  | .ret => none
noncomputable def B_TlbLast_6 (x0 : Nat) (x1 : Nat) (x2 : Int) (n3 : Nat) (g3 : Nat → Nat → Int) (n4 : Nat) (g4 : Nat → Nat → Int) : Tr (Ex × List At) :=
 .br 24 (decide (x2 < (↑x1 : Int)))
 (.br 27 (decide (x2 < (100 : Int)))
 (.br 33 (within x2 x1)
 (.br 38 (within x2 x1)
 (.br 43 (within x2 x1)
 (.br 0 (decide (n4 ≤ (8 : Nat)))
 (.br 0 (pdec (pre11 x0 x1 x2 (0 : Int) x2 g3 (addN n4 g4 (g3 (x0 + Int.toNat x2) (1 : Nat)) (g3 (x0 + Int.toNat x2) (2 : Nat))) (addG n4 g4 (g3 (x0 + Int.toNat x2) (1 : Nat)) (g3 (x0 + Int.toNat x2) (2 : Nat)) (g3 (x0 + Int.toNat x2) (3 : Nat)) (g3 (x0 + Int.toNat x2) (5 : Nat)))))
 (.br 141 (decide ((↑(addN n4 g4 (g3 (x0 + Int.toNat x2) (1 : Nat)) (g3 (x0 + Int.toNat x2) (2 : Nat))) : Int) > (8 : Int)))
 (.no)
 (.br 147 (decide ((↑(addN n4 g4 (g3 (x0 + Int.toNat x2) (1 : Nat)) (g3 (x0 + Int.toNat x2) (2 : Nat))) : Int) < if (8 : Int) < (↑(othN g3 x0 (Int.toNat x2) (Int.toNat (x2 + (1 : Int))) (0 : Nat)) : Int) then (8 : Int) else (↑(othN g3 x0 (Int.toNat x2) (Int.toNat (x2 + (1 : Int))) (0 : Nat)) : Int)))
 (.no)
 (.ok (.normal, [(.n (x0)), (.n (x1)), (.i (IntKind.wrap IntKind.i64 (x2 + (1 : Int)))), (.r (n3) (g3)), (.r (addN n4 g4 (g3 (x0 + Int.toNat x2) (1 : Nat)) (g3 (x0 + Int.toNat x2) (2 : Nat))) (addG n4 g4 (g3 (x0 + Int.toNat x2) (1 : Nat)) (g3 (x0 + Int.toNat x2) (2 : Nat)) (g3 (x0 + Int.toNat x2) (3 : Nat)) (g3 (x0 + Int.toNat x2) (5 : Nat))))]))))
 (.no))
 (.no))
 (.no))
 (.no))
 (.no))
 (.ok (.exit 0, [])))
 (.ok (.exit 0, []))
noncomputable def y_TlbLast_6 : Nat → Option Nat := (syOf3 [24, 27, 33, 38, 43, 141, 147] [] [])
noncomputable def BL_TlbLast_6 (l : List At) : Tr (Ex × List At) := B_TlbLast_6 (aN l 0) (aN l 1) (aI l 2) (aRn l 3) (aRg l 3) (aRn l 4) (aRg l 4)
theorem eB_TlbLast_6 (l : List At) : (exec Try.prog Γ_shown y_TlbLast_6 Lp_TlbLast_11 100 (loopAt Try.f3 6) ⟨mkV lsh_TlbLast_6 l, mkH lsh_TlbLast_6 l⟩).bind (leafL 1 xs_TlbLast_6) = BL_TlbLast_6 l := by kernel_rfl
/- by hand: O_TlbLast_6 (x0 : Nat) (x1 : Nat) (x2 : Int) (n3 : Nat) (g3 : Nat → Nat → Int) (n4 : Nat) (g4 : Nat → Nat → Int) : Tr (Ex × List At); OL_TlbLast_6 (l) := O_TlbLast_6 (aN l 0) (aN l 1) (aI l 2) (aRn l 3) (aRg l 3) (aRn l 4) (aRg l 4); μ_TlbLast_6 : List At → Nat; rd_TlbLast_6 : ∀ l r, (OL_TlbLast_6 l).val = some r → RoundA BL_TlbLast_6 OL_TlbLast_6 μ_TlbLast_6 l r -/

end Go.Proofs.Ytimdpdkgiibndaa.G
end

/-
  A call of Add keeps the cache the last calls of their keys; what the outer loop comes to.
-/
section
namespace Go.Proofs.Ytimdpdkgiibndaa.G
open Go Go.AM Go.Proofs

structure Rc (o : Nat → Nat → Int) (x0 i n : Nat) (g : Nat → Nat → Int) (J : Nat → Nat) : Prop where
  lt : ∀ r, r < n → J r < i
  mono : ∀ r s, r < s → s < n → J r < J s
  row : ∀ r, r < n → g r 0 = o (x0 + J r) 1 ∧ g r 1 = o (x0 + J r) 2 ∧ g r 2 = o (x0 + J r) 3 ∧ g r 3 = 0 ∧ g r 4 = o (x0 + J r) 5
  lst : ∀ r, r < n → Lst o x0 (J r) i

def sh (J : Nat → Nat) (q : Nat) : Nat → Nat := fun r => if r < q then J r else J (r + 1)
theorem sh_at (g : Nat → Nat → Int) (J : Nat → Nat) (q r : Nat) : ∃ r', (∀ c, delG g q r c = g r' c) ∧ sh J q r = J r' ∧ r ≤ r' ∧ r' ≤ r + 1 ∧ (r < q → r' = r) ∧ (¬ r < q → r' = r + 1) := by
  unfold sh
  by_cases h : r < q
  · exact ⟨r, fun c => del_lt h c, if_pos h, by omega, by omega, by omega, by omega⟩
  · exact ⟨r + 1, fun c => del_ge h c, if_neg h, by omega, by omega, by omega, by omega⟩

section
variable {o : Nat → Nat → Int} {x0 i n : Nat} {g : Nat → Nat → Int} {J : Nat → Nat}

theorem Rc.del (h : Rc o x0 i n g J) (q : Nat) : Rc o x0 i (n - 1) (delG g q) (sh J q) where
  lt r hr := by
    obtain ⟨r', _, e, _, _, _, _⟩ := sh_at g J q r
    rw [e]; exact h.lt r' (by omega)
  mono r s h1 h2 := by
    obtain ⟨r', _, e, _, _, a1, a2⟩ := sh_at g J q r
    obtain ⟨s', _, f, _, _, b1, b2⟩ := sh_at g J q s
    rw [e, f]
    refine h.mono r' s' ?_ (by omega)
    by_cases h3 : r < q
    · have := a1 h3; omega
    · have := a2 h3; have := b2 (by omega); omega
  row r hr := by
    obtain ⟨r', d, e, _, _, _, _⟩ := sh_at g J q r
    rw [e, d, d, d, d, d]; exact h.row r' (by omega)
  lst r hr := by
    obtain ⟨r', _, e, _, _, _, _⟩ := sh_at g J q r
    rw [e]; exact h.lst r' (by omega)

theorem rp_one (h : Rp o x0 i n g J) : ∃ J1, Rc o x0 i (oneN n g (o (x0 + i) 1) (o (x0 + i) 2)) (oneG n g (o (x0 + i) 1) (o (x0 + i) 2)) J1 ∧ oneN n g (o (x0 + i) 1) (o (x0 + i) 2) ≤ 8 ∧
    (∀ r, r < oneN n g (o (x0 + i) 1) (o (x0 + i) 2) → ¬ KE o (x0 + i) (x0 + J1 r)) ∧
    ∀ j, j < i → Lst o x0 j i → ¬ KE o (x0 + i) (x0 + j) → (∃ r, r < oneN n g (o (x0 + i) 1) (o (x0 + i) 2) ∧ J1 r = j) ∨ (7 ≤ oneN n g (o (x0 + i) 1) (o (x0 + i) 2) ∧ j < J1 0) := by
  have hc : Rc o x0 i n g J := ⟨h.lt, h.mono, h.row, h.lst⟩
  have hk := one_nk (s := o (x0 + i) 1) (p := o (x0 + i) 2) h.dist
  have key : ∀ {n1 : Nat} {g1 : Nat → Nat → Int} {J1 : Nat → Nat}, Rc o x0 i n1 g1 J1 → NK n1 g1 (o (x0 + i) 1) (o (x0 + i) 2) → ∀ r, r < n1 → ¬ KE o (x0 + i) (x0 + J1 r) := by
    intro n1 g1 J1 h1 h2 r hr he
    obtain ⟨a0, a1, _⟩ := h1.row r hr
    exact hit_not.1 (h2 r hr) ⟨by rw [a0, he.1], by rw [a1, he.2]⟩
  have hle := h.le
  unfold oneN oneG at *
  cases hf : fnd n g (o (x0 + i) 1) (o (x0 + i) 2) with
  | true =>
    rw [hf] at hk
    have hi : idx n g (o (x0 + i) 1) (o (x0 + i) 2) < n := of_decide_eq_true hf
    have hh := hit_iff.1 ((idx_spec n g (o (x0 + i) 1) (o (x0 + i) 2)).2.1 hi)
    obtain ⟨a0, a1, _⟩ := h.row _ hi
    generalize idx n g (o (x0 + i) 1) (o (x0 + i) 2) = q at *
    have hd := hc.del q
    refine ⟨sh J q, hd, by simp only [cond_true]; omega, key hd hk, fun j h1 h2 h3 => ?_⟩
    simp only [cond_true]
    rcases h.all j h1 h2 with ⟨r, r1, r2⟩ | ⟨r1, r2⟩
    · have hne : r ≠ q := by
        intro e
        subst e
        exact h3 ⟨by rw [← r2, ← a0, hh.1], by rw [← r2, ← a1, hh.2]⟩
      rcases Nat.lt_or_ge r q with e | e
      · exact .inl ⟨r, by omega, by unfold sh; rw [if_pos e]; exact r2⟩
      · refine .inl ⟨r - 1, by omega, ?_⟩
        unfold sh
        rw [if_neg (by omega), show r - 1 + 1 = r by omega]; exact r2
    · refine .inr ⟨by omega, ?_⟩
      unfold sh
      by_cases h0 : 0 < q
      · rw [if_pos h0]; exact r2
      · rw [if_neg h0]
        exact Nat.lt_trans r2 (h.mono 0 1 (by omega) (by omega))
  | false =>
    rw [hf] at hk
    refine ⟨J, hc, by simp only [cond_false]; omega, key hc hk, fun j h1 h2 h3 => ?_⟩
    simp only [cond_false]
    rcases h.all j h1 h2 with h4 | ⟨r1, r2⟩
    · exact .inl h4
    · exact .inr ⟨by omega, r2⟩

theorem rp_two (h : Rp o x0 i n g J) : ∃ J2, Rc o x0 i (twoN n g (o (x0 + i) 1) (o (x0 + i) 2)) (twoG n g (o (x0 + i) 1) (o (x0 + i) 2)) J2 ∧ twoN n g (o (x0 + i) 1) (o (x0 + i) 2) ≤ 7 ∧
    (∀ r, r < twoN n g (o (x0 + i) 1) (o (x0 + i) 2) → ¬ KE o (x0 + i) (x0 + J2 r)) ∧
    ∀ j, j < i → Lst o x0 j i → ¬ KE o (x0 + i) (x0 + j) → (∃ r, r < twoN n g (o (x0 + i) 1) (o (x0 + i) 2) ∧ J2 r = j) ∨ (twoN n g (o (x0 + i) 1) (o (x0 + i) 2) = 7 ∧ j < J2 0) := by
  obtain ⟨J1, h1, h2, h3, h4⟩ := rp_one h
  unfold twoN twoG
  cases h8 : decide (8 ≤ oneN n g (o (x0 + i) 1) (o (x0 + i) 2)) with
  | true =>
    have h8 := of_decide_eq_true h8
    have e : ∀ r, sh J1 0 r = J1 (r + 1) := fun r => by unfold sh; rw [if_neg (by omega)]
    refine ⟨sh J1 0, h1.del 0, by simp only [cond_true]; omega, fun r hr => ?_, fun j a1 a2 a3 => ?_⟩
    · rw [e]; exact h3 (r + 1) (by simp only [cond_true] at hr; omega)
    · simp only [cond_true]
      have hm := h1.mono 0 1 (by omega) (by omega)
      rw [e]
      rcases h4 j a1 a2 a3 with ⟨r, r1, r2⟩ | ⟨r1, r2⟩
      · cases r with
        | zero => exact .inr ⟨by omega, by rw [← r2]; exact hm⟩
        | succ r => exact .inl ⟨r, by omega, by rw [e]; exact r2⟩
      · exact .inr ⟨by omega, Nat.lt_trans r2 hm⟩
  | false =>
    have h8 := of_decide_eq_false h8
    refine ⟨J1, h1, by simp only [cond_false]; omega, h3, fun j a1 a2 a3 => ?_⟩
    simp only [cond_false]
    rcases h4 j a1 a2 a3 with h5 | ⟨r1, r2⟩
    · exact .inl h5
    · exact .inr ⟨by omega, r2⟩

theorem rp_add (h : Rp o x0 i n g J) : ∃ J', Rp o x0 (i + 1) (addN n g (o (x0 + i) 1) (o (x0 + i) 2)) (addG n g (o (x0 + i) 1) (o (x0 + i) 2) (o (x0 + i) 3) (o (x0 + i) 5)) J' := by
  obtain ⟨J2, h1, h2, h3, h4⟩ := rp_two h
  unfold addN addG
  generalize twoN n g (o (x0 + i) 1) (o (x0 + i) 2) = m at *
  generalize twoG n g (o (x0 + i) 1) (o (x0 + i) 2) = g2 at *
  have e1 : ∀ r, r < m → (fun r => if r < m then J2 r else i) r = J2 r := fun r hr => if_pos hr
  have e2 : (fun r => if r < m then J2 r else i) m = i := if_neg (by omega)
  generalize (fun r => if r < m then J2 r else i) = J' at e1 e2
  have rs : ∀ r, r < m + 1 → r < m ∨ r = m := fun r hr => by omega
  refine ⟨J', ⟨by omega, fun r hr => ?_, fun r s hr hs => ?_, fun r hr => ?_, fun r hr => ?_, fun j hj hl => ?_⟩⟩
  · rcases rs r hr with e | rfl
    · rw [e1 r e]; have := h1.lt r e; omega
    · rw [e2]; omega
  · rcases rs s hs with e | rfl
    · rw [e1 r (by omega), e1 s e]; exact h1.mono r s hr e
    · rw [e1 r hr, e2]; exact h1.lt r hr
  · rcases rs r hr with e | rfl
    · rw [e1 r e, appG_lt e, appG_lt e, appG_lt e, appG_lt e, appG_lt e]; exact h1.row r e
    · rw [e2, appG_at, appG_at, appG_at, appG_at, appG_at]; exact ⟨rfl, rfl, rfl, rfl, rfl⟩
  · rcases rs r hr with e | rfl
    · rw [e1 r e]
      intro k k1 k2
      rcases Nat.lt_or_ge k i with e3 | e3
      · exact h1.lst r e k k1 e3
      · obtain rfl : k = i := by omega
        exact h3 r e
    · rw [e2]; intro k k1 k2; omega
  · rcases Nat.lt_or_ge j i with e | e
    · have hl2 : Lst o x0 j i := fun k k1 k2 => hl k k1 (by omega)
      rcases h4 j e hl2 (hl i e (by omega)) with ⟨r, r1, r2⟩ | ⟨r1, r2⟩
      · exact .inl ⟨r, by omega, by rw [e1 r r1]; exact r2⟩
      · exact .inr ⟨by omega, by rw [e1 0 (by omega)]; exact r2⟩
    · obtain rfl : j = i := by omega
      exact .inl ⟨m, by omega, e2⟩

theorem mid_start (h : Rp o x0 (i + 1) n g J) : MidP o x0 i n g (i + 1) 0 :=
  ⟨J, h, Nat.zero_le _, fun r hr => ⟨fun h1 => by omega, fun _ => h.lt r hr⟩⟩
end

def preO (x0 : Nat) (x2 : Int) (o : Nat → Nat → Int) (n : Nat) (g : Nat → Nat → Int) : Prop := 0 ≤ x2 ∧ ∃ J, Rp o x0 x2.toNat n g J
noncomputable def O_TlbLast_6 (x0 _x1 : Nat) (x2 : Int) (_n3 : Nat) (g3 : Nat → Nat → Int) (n4 : Nat) (g4 : Nat → Nat → Int) : Tr (Ex × List At) :=
  .br 0 (pdec (preO x0 x2 g3 n4 g4)) (.ok (.exit 0, [])) .no
noncomputable def OL_TlbLast_6 (l : List At) : Tr (Ex × List At) := O_TlbLast_6 (aN l 0) (aN l 1) (aI l 2) (aRn l 3) (aRg l 3) (aRn l 4) (aRg l 4)
def μ_TlbLast_6 (l : List At) : Nat := ((aN l 1 : Int) - aI l 2).toNat

theorem rd_TlbLast_6 : ∀ l r, (OL_TlbLast_6 l).val = some r → RoundS BL_TlbLast_6 OL_TlbLast_6 μ_TlbLast_6 l r := by
  intro l r h
  obtain ⟨hc, h⟩ := guard_val h
  obtain ⟨c0, J, c1⟩ := of_pdec hc
  have hr := val_ok h
  unfold RoundS BL_TlbLast_6 B_TlbLast_6
  have stop : (Tr.ok (Ex.exit 0, ([] : List At))).sat fun p => (p.1 = .normal ∧ ∃ l2 r', AtsEq p.2 l2 ∧ μ_TlbLast_6 l2 < μ_TlbLast_6 l ∧ (OL_TlbLast_6 l2).val = some r' ∧ r'.1 = r.1 ∧ AtsEq r'.2 r.2) ∨ (p.1 ≠ .normal ∧ r.1 = p.1 ∧ AtsEq p.2 r.2) := by
    subst hr
    exact out_ (by simp) rfl atsEq_nil
  refine brD (fun h1 => brD (fun h2 => ?_) (fun _ => stop)) (fun _ => stop)
  have w1 : IntKind.i64.wrap (aI l 2 + 1) = aI l 2 + 1 := wrap_i64 (by omega) (by omega)
  have win : within (aI l 2) (aN l 1) = true := by simp only [within, Bool.and_eq_true, decide_eq_true_eq]; omega
  obtain ⟨J', hJ⟩ := rp_add c1
  have k1 : (aI l 2 + 1).toNat = (aI l 2).toNat + 1 := by omega
  have hm := mid_start hJ
  have ho := oth_le _ _ (Nat.le_refl _) hm
  have hle := hJ.le
  rw [w1, k1]
  refine brT win (brT win (brT win (brT (decide_eq_true c1.le) (brT (pdec_yes ⟨by omega, by omega, by omega, by omega, by omega, by omega, ?_⟩) (brF (decide_eq_false (by omega)) (brF (decide_eq_false ?_) ?_))))))
  · rw [k1]; exact hm
  · split <;> omega
  · refine on_ _ r (AtsEq.refl _) ?_ ((br_t (g := 0) (pdec_yes ⟨show 0 ≤ aI l 2 + 1 by omega, J', ?_⟩)).trans h) rfl (AtsEq.refl _)
    · show ((aN l 1 : Int) - (aI l 2 + 1)).toNat < ((aN l 1 : Int) - aI l 2).toNat
      omega
    · show Rp _ _ (aI l 2 + 1).toNat _ _ _
      rw [k1]; exact hJ
end Go.Proofs.Ytimdpdkgiibndaa.G
end

/-
  What functions of the seat compute, printed by a program from the explorer.
-/
section
namespace Go.Proofs.Ytimdpdkgiibndaa.G
open Go Go.AM Go.Proofs
theorem f_TlbLast_6 : LoopF Try.prog 1 (loopAt Try.f3 6) (loopFn 1 lsh_TlbLast_6 xs_TlbLast_6 OL_TlbLast_6) :=
  loop_sat (sy := y_TlbLast_6) (fuel := 100) (Lp := Lp_TlbLast_11) o_shown mixed (loopsOK_at lk_TlbLast_11 6) rfl eB_TlbLast_6 rd_TlbLast_6
noncomputable def Lp_TlbLast_6 : Loops := Loops.set Lp_TlbLast_11 6 (loopFn 1 lsh_TlbLast_6 xs_TlbLast_6 OL_TlbLast_6)
theorem lk_TlbLast_6 : LoopsFn Try.prog 1 Lp_TlbLast_6 Try.f3 := loopsFn_set lk_TlbLast_11 (by kernel_rfl) f_TlbLast_6

/-! ### TlbLast -/

noncomputable def ish_TlbLast : FSh := ⟨[.v false [.vw 0 6]], [.rows [.n .i64, .n .u64, .n .u64, .n .i64, .n .i64, .n .i64] false]⟩
noncomputable def osh_TlbLast : FSh := ⟨[.v false [.k .b]], [.no]⟩
noncomputable def T_TlbLast (n0 : Nat) (g0 : Nat → Nat → Int) : Tr (List At) :=
 .br 0 (true)
 (.br 0 (true)
 (.br 0 (true)
 (.br 0 (true)
 (.br 0 (true)
 (.br 0 (true)
 (.br 0 (true)
 (.br 0 (true)
 (.br 0 (true)
 (.br 0 (true)
 (.br 0 (true)
 (.br 0 (true)
 (.br 0 (pdec (preO (0 : Nat) (0 : Int) g0 (0 : Nat) fun (_ _ : Nat) => (0 : Int)))
 (.ok [(.b (true))])
 (.no))
 (.no))
 (.no))
 (.no))
 (.no))
 (.no))
 (.no))
 (.no))
 (.no))
 (.no))
 (.no))
 (.no))
 (.no)
noncomputable def y_TlbLast : Nat → Option Nat := (syOf3 [] [] [])
noncomputable def TL_TlbLast (l : List At) : Tr (List At) := T_TlbLast (aRn l 0) (aRg l 0)
theorem e_TlbLast (l : List At) : (call Try.prog Γ_shown y_TlbLast Lp_TlbLast_6 100 Try.f3 (mkV ish_TlbLast l) (mkH ish_TlbLast l)).bind (leafO ish_TlbLast.hp.length ⟨[.v false [.k .b]], List.replicate ish_TlbLast.hp.length .no⟩) = TL_TlbLast l := by kernel_rfl

end Go.Proofs.Ytimdpdkgiibndaa.G
end

/-
  The plain law of TlbLast.
-/
section
namespace Go.Proofs.Ytimdpdkgiibndaa.G
open Go Go.AM Go.Proofs

theorem pre_start (o : Nat → Nat → Int) : preO 0 0 o 0 fun (_ _ : Nat) => (0 : Int) :=
  ⟨Int.le_refl _, id, ⟨Nat.zero_le _, fun r h => by omega, fun r s _ h => by omega, fun r h => by omega, fun r h => by omega, fun j h => by have : j < 0 := h; omega⟩⟩

theorem vc_TlbLast (n0 : Nat) (g0 : Nat → Nat → Int) (_b : n0 ≤ maxLen) (_w : ∀ (i c : Nat) (k : SK), i < n0 → [SK.n .i64, SK.n .u64, SK.n .u64, SK.n .i64, SK.n .i64, SK.n .i64][c]? = some k → wfS k (g0 i c)) :
    (T_TlbLast n0 g0).sat fun r => r = [.b true] := by
  unfold T_TlbLast
  exact brT rfl (brT rfl (brT rfl (brT rfl (brT rfl (brT rfl (brT rfl (brT rfl (brT rfl (brT rfl (brT rfl (brT rfl (brT (pdec_yes (pre_start g0)) (Tr.sat_ok.2 rfl)))))))))))))
end Go.Proofs.Ytimdpdkgiibndaa.G
end
