/-
  What functions of the seat compute, printed by a program from the explorer.
-/
import Derived.Test.YtepdekambalmhaaS6
import Derived.KernelRfl
namespace Go.Proofs.Ytepdekambalmhaa.G
open Go Go.AM Go.Proofs
theorem f_same_4 : LoopF Try.prog 2 (loopAt Try.f12 4) (loopFn 2 lsh_same_4 xs_same_4 OL_same_4) :=
  loop_sat (sy := y_same_4) (fuel := 100) (Lp := noLoops) o_S5 mixed (loopsOK_at (noLoops_ok _) 4) rfl eB_same_4 rd_same_4
def Lp_same_4 : Loops := Loops.set noLoops 4 (loopFn 2 lsh_same_4 xs_same_4 OL_same_4)
theorem lk_same_4 : LoopsFn Try.prog 2 Lp_same_4 Try.f12 := loopsFn_set (noLoops_ok _) (by kernel_rfl) f_same_4

/-! ### same -/

def ish_same : FSh := ⟨[.v false [.vw 0 1], .v false [.vw 1 1]], [.rows [.n .i64] false, .rows [.n .i64] false]⟩
def osh_same : FSh := ⟨[.v false [.k .b]], [.no, .no]⟩
def T_same (n0 : Nat) (g0 : Nat → Nat → Int) (n1 : Nat) (g1 : Nat → Nat → Int) : Tr (List At) :=
 .br 10 ((↑n0 : Int) != (↑n1 : Int))
 (.ok [(.b (false))])
 (.br 0 (decide ((0 : Int) ≤ (0 : Int) ∧ n0 = n1 ∧ (0 : Int) ≤ (↑n0 : Int) ∧ n0 ≤ (9223372036854775807 : Nat)))
 (.br 0 (decide (findI (sameP (0 : Nat) (0 : Nat) g0 g1) (Int.toNat ((↑n0 : Int) - (0 : Int))) (0 : Nat) < n0))
 (.ok [(.b (false))])
 (.ok [(.b (true))]))
 (.no))
def y_same : Nat → Option Nat := (syOf3 [10] [] [])
def TL_same (l : List At) : Tr (List At) := T_same (aRn l 0) (aRg l 0) (aRn l 1) (aRg l 1)
theorem e_same (l : List At) : (call Try.prog Γ_S5 y_same Lp_same_4 100 Try.f12 (mkV ish_same l) (mkH ish_same l)).bind (leafO 2 osh_same) = TL_same l := by kernel_rfl
def r_same_0 (n0 : Nat) (g0 : Nat → Nat → Int) (n1 : Nat) (g1 : Nat → Nat → Int) : Bool :=
  bif (↑n0 : Int) != (↑n1 : Int) then (false)
  else bif decide ((0 : Int) ≤ (0 : Int) ∧ n0 = n1 ∧ (0 : Int) ≤ (↑n0 : Int) ∧ n0 ≤ (9223372036854775807 : Nat)) then (bif decide (findI (sameP (0 : Nat) (0 : Nat) g0 g1) (Int.toNat ((↑n0 : Int) - (0 : Int))) (0 : Nat) < n0) then (false)
  else true)
  else false
def ok_same (n0 : Nat) (g0 : Nat → Nat → Int) (n1 : Nat) (g1 : Nat → Nat → Int) : Bool :=
  bif (↑n0 : Int) != (↑n1 : Int) then (true)
  else bif decide ((0 : Int) ≤ (0 : Int) ∧ n0 = n1 ∧ (0 : Int) ≤ (↑n0 : Int) ∧ n0 ≤ (9223372036854775807 : Nat)) then (bif decide (findI (sameP (0 : Nat) (0 : Nat) g0 g1) (Int.toNat ((↑n0 : Int) - (0 : Int))) (0 : Nat) < n0) then (true)
  else true)
  else false
def F_same : List At → Tr (List At) := fun l => .br 0 (ok_same (aRn l 0) (aRg l 0) (aRn l 1) (aRg l 1)) (.ok [.b (r_same_0 (aRn l 0) (aRg l 0) (aRn l 1) (aRg l 1))]) .no
theorem s_same : SpecF Try.prog 12 (.read (locR ish_same osh_same F_same)) :=
  spec_read (sy := y_same) (fuel := 100) (Lp := Lp_same_4) o_S5 mixed ⟨Try.func12, by kernel_rfl, by kernel_rfl⟩ ish_same osh_same (by kernel_rfl) lk_same_4 (hT_merged [.b] e_same (fun l => by kernel_rfl) (fun l => by kernel_rfl))
def Γ_same : Specs := upd Γ_S5 12 (.read (locR ish_same osh_same F_same))
theorem o_same : SpecOK Try.prog Γ_same := SpecOK.upd o_S5 s_same

/-! ### shown -/

def ish_shown : FSh := ⟨[], []⟩
def osh_shown : FSh := ⟨[.v false [.k .b]], []⟩
def T_shown  : Tr (List At) :=
 .br 0 (true)
 (.br 0 (true)
 (.br 0 (true)
 (.br 0 (true)
 (.ok [(.b (true))])
 (.no))
 (.no))
 (.no))
 (.no)
def y_shown : Nat → Option Nat := (syOf3 [] [] [])
def TL_shown (l : List At) : Tr (List At) := T_shown 
theorem e_shown (l : List At) : (call Try.prog Γ_same y_shown noLoops 100 Try.f7 (mkV ish_shown l) (mkH ish_shown l)).bind (leafO 0 osh_shown) = TL_shown l := by kernel_rfl
def r_shown_0  : Bool :=
  bif true then (bif true then (bif true then (bif true then (true)
  else false)
  else false)
  else false)
  else false
def ok_shown  : Bool :=
  bif true then (bif true then (bif true then (bif true then (true)
  else false)
  else false)
  else false)
  else false
def F_shown : List At → Tr (List At) := fun l => .br 0 (ok_shown ) (.ok [.b (r_shown_0)]) .no
theorem s_shown : SpecF Try.prog 7 (.eff (locF ish_shown osh_shown F_shown)) :=
  spec_loc (sy := y_shown) (fuel := 100) (Lp := noLoops) o_same mixed ⟨Try.func7, by kernel_rfl, by kernel_rfl⟩ ish_shown osh_shown (noLoops_ok _) (hT_merged [.b] e_shown (fun l => by kernel_rfl) (fun l => by kernel_rfl))
def Γ_shown : Specs := upd Γ_same 7 (.eff (locF ish_shown osh_shown F_shown))
theorem o_shown : SpecOK Try.prog Γ_shown := SpecOK.upd o_same s_shown

end Go.Proofs.Ytepdekambalmhaa.G
