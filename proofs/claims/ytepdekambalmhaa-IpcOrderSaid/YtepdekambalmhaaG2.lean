/-
  What functions of the seat compute, printed by a program from the explorer.
-/
import Derived.Test.YtepdekambalmhaaG1O
import Derived.KernelRfl
namespace Go.Proofs.Ytepdekambalmhaa.G
open Go Go.AM Go.Proofs
theorem f_idxF_2 : LoopF Try.prog 1 (loopAt Try.f21 2) (loopFn 1 lsh_idxF_2 xs_idxF_2 OL_idxF_2) :=
  loop_sat (sy := y_idxF_2) (fuel := 100) (Lp := noLoops) o_notId mixed (loopsOK_at (noLoops_ok _) 2) rfl eB_idxF_2 rd_idxF_2
def Lp_idxF_2 : Loops := Loops.set noLoops 2 (loopFn 1 lsh_idxF_2 xs_idxF_2 OL_idxF_2)
theorem lk_idxF_2 : LoopsFn Try.prog 1 Lp_idxF_2 Try.f21 := loopsFn_set (noLoops_ok _) (by kernel_rfl) f_idxF_2

/-! ### idxF -/

def ish_idxF : FSh := ⟨[.v false [.vw 0 1], .v false [.fn 19 []]], [.rows [.n .i64] false]⟩
def osh_idxF : FSh := ⟨[.v false [.k (.n .i64)]], [.no]⟩
def T_idxF (n0 : Nat) (g0 : Nat → Nat → Int) : Tr (List At) :=
 .br 0 (decide ((0 : Int) ≤ (0 : Int) ∧ (↑n0 : Int) = (↑n0 : Int) ∧ (0 : Int) ≤ (↑n0 : Int) ∧ (↑n0 : Int) ≤ (9223372036854775807 : Int)))
 (.br 0 (decide (findI (fun (k : Nat) => r_notId_0 (g0 ((0 : Nat) + k) (0 : Nat))) (Int.toNat ((↑n0 : Int) - (0 : Int))) (0 : Nat) < Int.toNat (↑n0 : Int)))
 (.ok [(.i ((↑(findI (fun (k : Nat) => r_notId_0 (g0 ((0 : Nat) + k) (0 : Nat))) (Int.toNat ((↑n0 : Int) - (0 : Int))) (0 : Nat)) : Int)))])
 (.ok [(.i ((-1 : Int)))]))
 (.no)
def y_idxF : Nat → Option Nat := (syOf3 [] [] [])
def TL_idxF (l : List At) : Tr (List At) := T_idxF (aRn l 0) (aRg l 0)
theorem e_idxF (l : List At) : (call Try.prog Γ_notId y_idxF Lp_idxF_2 100 Try.f21 (mkV ish_idxF l) (mkH ish_idxF l)).bind (leafO 1 osh_idxF) = TL_idxF l := by kernel_rfl
def r_idxF_0 (n0 : Nat) (g0 : Nat → Nat → Int) : Int :=
  bif decide ((0 : Int) ≤ (0 : Int) ∧ (↑n0 : Int) = (↑n0 : Int) ∧ (0 : Int) ≤ (↑n0 : Int) ∧ (↑n0 : Int) ≤ (9223372036854775807 : Int)) then (bif decide (findI (fun (k : Nat) => r_notId_0 (g0 ((0 : Nat) + k) (0 : Nat))) (Int.toNat ((↑n0 : Int) - (0 : Int))) (0 : Nat) < Int.toNat (↑n0 : Int)) then ((↑(findI (fun (k : Nat) => r_notId_0 (g0 ((0 : Nat) + k) (0 : Nat))) (Int.toNat ((↑n0 : Int) - (0 : Int))) (0 : Nat)) : Int))
  else (-1 : Int))
  else 0
def ok_idxF (n0 : Nat) (g0 : Nat → Nat → Int) : Bool :=
  bif decide ((0 : Int) ≤ (0 : Int) ∧ (↑n0 : Int) = (↑n0 : Int) ∧ (0 : Int) ≤ (↑n0 : Int) ∧ (↑n0 : Int) ≤ (9223372036854775807 : Int)) then (bif decide (findI (fun (k : Nat) => r_notId_0 (g0 ((0 : Nat) + k) (0 : Nat))) (Int.toNat ((↑n0 : Int) - (0 : Int))) (0 : Nat) < Int.toNat (↑n0 : Int)) then (true)
  else true)
  else false
def F_idxF : List At → Tr (List At) := fun l => .br 0 (ok_idxF (aRn l 0) (aRg l 0)) (.ok [.i (r_idxF_0 (aRn l 0) (aRg l 0))]) .no
theorem s_idxF : SpecF Try.prog 21 (.read (locR ish_idxF osh_idxF F_idxF)) :=
  spec_read (sy := y_idxF) (fuel := 100) (Lp := Lp_idxF_2) o_notId mixed ⟨Try.func21, by kernel_rfl, by kernel_rfl⟩ ish_idxF osh_idxF (by kernel_rfl) lk_idxF_2 (hT_merged [.i] e_idxF (fun l => by kernel_rfl) (fun l => by kernel_rfl))
def Γ_idxF : Specs := upd Γ_notId 21 (.read (locR ish_idxF osh_idxF F_idxF))
theorem o_idxF : SpecOK Try.prog Γ_idxF := SpecOK.upd o_notId s_idxF

/-! ### hasF -/

def ish_hasF : FSh := ⟨[.v false [.vw 0 1], .v false [.fn 19 []]], [.rows [.n .i64] false]⟩
def osh_hasF : FSh := ⟨[.v false [.k .b]], [.no]⟩
def T_hasF (n0 : Nat) (g0 : Nat → Nat → Int) : Tr (List At) :=
 .br 0 (ok_idxF n0 fun (j cc : Nat) => g0 ((0 : Nat) + j) cc)
 (.ok [(.b (decide ((r_idxF_0 n0 fun (j cc : Nat) => g0 ((0 : Nat) + j) cc) ≥ (0 : Int))))])
 (.no)
def y_hasF : Nat → Option Nat := (syOf3 [] [] [])
def TL_hasF (l : List At) : Tr (List At) := T_hasF (aRn l 0) (aRg l 0)
theorem e_hasF (l : List At) : (call Try.prog Γ_idxF y_hasF noLoops 100 Try.f18 (mkV ish_hasF l) (mkH ish_hasF l)).bind (leafO 1 osh_hasF) = TL_hasF l := by kernel_rfl
def r_hasF_0 (n0 : Nat) (g0 : Nat → Nat → Int) : Bool :=
  bif ok_idxF n0 fun (j cc : Nat) => g0 ((0 : Nat) + j) cc then (decide ((r_idxF_0 n0 fun (j cc : Nat) => g0 ((0 : Nat) + j) cc) ≥ (0 : Int)))
  else false
def ok_hasF (n0 : Nat) (g0 : Nat → Nat → Int) : Bool :=
  bif ok_idxF n0 fun (j cc : Nat) => g0 ((0 : Nat) + j) cc then (true)
  else false
def F_hasF : List At → Tr (List At) := fun l => .br 0 (ok_hasF (aRn l 0) (aRg l 0)) (.ok [.b (r_hasF_0 (aRn l 0) (aRg l 0))]) .no
theorem s_hasF : SpecF Try.prog 18 (.read (locR ish_hasF osh_hasF F_hasF)) :=
  spec_read (sy := y_hasF) (fuel := 100) (Lp := noLoops) o_idxF mixed ⟨Try.func18, by kernel_rfl, by kernel_rfl⟩ ish_hasF osh_hasF (by kernel_rfl) (noLoops_ok _) (hT_merged [.b] e_hasF (fun l => by kernel_rfl) (fun l => by kernel_rfl))
def Γ_hasF : Specs := upd Γ_idxF 18 (.read (locR ish_hasF osh_hasF F_hasF))
theorem o_hasF : SpecOK Try.prog Γ_hasF := SpecOK.upd o_idxF s_hasF

/-! ### the loop at 7 of gLine -/

def lsh_gLine_7 : FSh := ⟨[.any, .any, .any, .any, .v false [.p 1 0], .any, .any, .any, .v false [.p 2 0], .any, .any, .any, .any, .any, .any, .any, .any, .any, .any, .any, .any, .any, .any, .any, .any, .any, .any, .any, .any, .any, .any, .any, .any, .any, .any, .any, .any, .any, .any, .any, .any, .any, .any, .any, .any, .any, .any, .any, .any, .v false [.sq 0 1], .v false [.k (.n .i64)], .v false [.k (.n .i64)], .any, .any, .any, .any, .any, .any, .any, .any, .any, .any, .any], [.rows [.n .i64] false, .cells [.k (.n .u64), .k (.n .u64), .k (.n .u64), .k (.n .u64), .k (.n .u64), .k (.n .u64), .k (.n .u64), .k (.n .u64)], .cells [.k (.n .u64), .k (.n .u64), .k (.n .u64), .k (.n .u64), .k (.n .u64), .k (.n .u64), .k (.n .u64), .k (.n .u64)]]⟩
def xsh_gLine_7_0 : FSh := ⟨[.any, .any, .any, .any, .v false [.p 1 0], .any, .any, .any, .v false [.p 2 0], .any, .any, .any, .any, .any, .any, .any, .any, .any, .any, .any, .any, .any, .any, .any, .any, .any, .any, .any, .any, .any, .any, .any, .any, .any, .any, .any, .any, .any, .any, .any, .any, .any, .any, .any, .any, .any, .any, .any, .any, .any, .any, .any, .any, .any, .any, .any, .any, .any, .any, .any, .any, .any, .any], [.no, .cells [.k (.n .u64), .k (.n .u64), .k (.n .u64), .k (.n .u64), .k (.n .u64), .k (.n .u64), .k (.n .u64), .k (.n .u64)], .cells [.k (.n .u64), .k (.n .u64), .k (.n .u64), .k (.n .u64), .k (.n .u64), .k (.n .u64), .k (.n .u64), .k (.n .u64)]]⟩
def xs_gLine_7 : Exs := fun e => match e with
  | .normal => some lsh_gLine_7
  | .exit n => (match Nat.beq n 0 with | true => some xsh_gLine_7_0 | false => none)
  | .ret => none
def B_gLine_7 (x0 : Nat) (x1 : Nat) (x2 : Int) (x3 : Int) (n4 : Nat) (g4 : Nat → Nat → Int) (x5 : Int) (x6 : Int) (x7 : Int) (x8 : Int) (x9 : Int) (x10 : Int) (x11 : Int) (x12 : Int) (x13 : Int) (x14 : Int) (x15 : Int) (x16 : Int) (x17 : Int) (x18 : Int) (x19 : Int) (x20 : Int) : Tr (Ex × List At) :=
 .br 52 (decide (x3 < x2))
 (.br 54 (within x3 x1)
 (.br 200060 (within (IntKind.wrap IntKind.i64 ((1 : Int) + x3)) (8 : Nat))
 (.ok (.normal, [(.n (x0)), (.n (x1)), (.i (x2)), (.i (IntKind.wrap IntKind.i64 (x3 + (1 : Int)))), (.r (n4) (g4)), (.i (x5)), (.i (x6)), (.i (x7)), (.i (x8)), (.i (x9)), (.i (x10)), (.i (x11)), (.i (x12)), (.i (bif Nat.beq (Int.toNat (IntKind.wrap IntKind.i64 ((1 : Int) + x3))) (0 : Nat) then IntKind.wrap IntKind.u64 (g4 (x0 + Int.toNat x3) (0 : Nat)) else x13)), (.i (bif Nat.beq (Int.toNat (IntKind.wrap IntKind.i64 ((1 : Int) + x3))) (1 : Nat) then IntKind.wrap IntKind.u64 (g4 (x0 + Int.toNat x3) (0 : Nat)) else x14)), (.i (bif Nat.beq (Int.toNat (IntKind.wrap IntKind.i64 ((1 : Int) + x3))) (2 : Nat) then IntKind.wrap IntKind.u64 (g4 (x0 + Int.toNat x3) (0 : Nat)) else x15)), (.i (bif Nat.beq (Int.toNat (IntKind.wrap IntKind.i64 ((1 : Int) + x3))) (3 : Nat) then IntKind.wrap IntKind.u64 (g4 (x0 + Int.toNat x3) (0 : Nat)) else x16)), (.i (bif Nat.beq (Int.toNat (IntKind.wrap IntKind.i64 ((1 : Int) + x3))) (4 : Nat) then IntKind.wrap IntKind.u64 (g4 (x0 + Int.toNat x3) (0 : Nat)) else x17)), (.i (bif Nat.beq (Int.toNat (IntKind.wrap IntKind.i64 ((1 : Int) + x3))) (5 : Nat) then IntKind.wrap IntKind.u64 (g4 (x0 + Int.toNat x3) (0 : Nat)) else x18)), (.i (bif Nat.beq (Int.toNat (IntKind.wrap IntKind.i64 ((1 : Int) + x3))) (6 : Nat) then IntKind.wrap IntKind.u64 (g4 (x0 + Int.toNat x3) (0 : Nat)) else x19)), (.i (bif Nat.beq (Int.toNat (IntKind.wrap IntKind.i64 ((1 : Int) + x3))) (7 : Nat) then IntKind.wrap IntKind.u64 (g4 (x0 + Int.toNat x3) (0 : Nat)) else x20))]))
 (.no))
 (.no))
 (.ok (.exit 0, [(.i (x5)), (.i (x6)), (.i (x7)), (.i (x8)), (.i (x9)), (.i (x10)), (.i (x11)), (.i (x12)), (.i (x13)), (.i (x14)), (.i (x15)), (.i (x16)), (.i (x17)), (.i (x18)), (.i (x19)), (.i (x20))]))
def y_gLine_7 : Nat → Option Nat := (syOf3 [52, 54] [] [60])
def BL_gLine_7 (l : List At) : Tr (Ex × List At) := B_gLine_7 (aN l 0) (aN l 1) (aI l 2) (aI l 3) (aRn l 4) (aRg l 4) (aI l 5) (aI l 6) (aI l 7) (aI l 8) (aI l 9) (aI l 10) (aI l 11) (aI l 12) (aI l 13) (aI l 14) (aI l 15) (aI l 16) (aI l 17) (aI l 18) (aI l 19) (aI l 20)
theorem eB_gLine_7 (l : List At) : (exec Try.prog Γ_hasF y_gLine_7 noLoops 100 (loopAt Try.f8 7) ⟨mkV lsh_gLine_7 l, mkH lsh_gLine_7 l⟩).bind (leafL 1 xs_gLine_7) = BL_gLine_7 l := by kernel_rfl
/- by hand: O_gLine_7 (x0 : Nat) (x1 : Nat) (x2 : Int) (x3 : Int) (n4 : Nat) (g4 : Nat → Nat → Int) (x5 : Int) (x6 : Int) (x7 : Int) (x8 : Int) (x9 : Int) (x10 : Int) (x11 : Int) (x12 : Int) (x13 : Int) (x14 : Int) (x15 : Int) (x16 : Int) (x17 : Int) (x18 : Int) (x19 : Int) (x20 : Int) : Tr (Ex × List At); OL_gLine_7 (l) := O_gLine_7 (aN l 0) (aN l 1) (aI l 2) (aI l 3) (aRn l 4) (aRg l 4) (aI l 5) (aI l 6) (aI l 7) (aI l 8) (aI l 9) (aI l 10) (aI l 11) (aI l 12) (aI l 13) (aI l 14) (aI l 15) (aI l 16) (aI l 17) (aI l 18) (aI l 19) (aI l 20); μ_gLine_7 : List At → Nat; rd_gLine_7 : ∀ l r, (OL_gLine_7 l).val = some r → RoundA BL_gLine_7 OL_gLine_7 μ_gLine_7 l r -/

/-! ### the loop at 7 of rLine -/

def lsh_rLine_7 : FSh := ⟨[.any, .v false [.sq 0 1], .any, .any, .v false [.p 1 0], .any, .v false [.p 2 0], .any, .v false [.k (.n .i64)], .any, .any, .any, .any, .any, .any, .any, .any, .any, .any, .any, .any, .any, .any, .any, .any, .any, .any, .any, .any, .any, .any, .any, .any, .any, .any, .any, .any, .any, .any, .any, .any, .any, .any, .any, .any, .any, .any, .any, .any, .any, .any, .any, .any, .any, .any, .any, .any, .any, .any, .any, .any, .any, .any, .any, .any, .any, .any, .any, .any, .any, .any, .any, .any, .any], [.rows [.n .i64] false, .cells [.k (.n .u64), .k (.n .u64), .k (.n .u64), .k (.n .u64), .k (.n .u64), .k (.n .u64), .k (.n .u64), .k (.n .u64)], .cells [.k (.n .u64), .k (.n .u64), .k (.n .u64), .k (.n .u64), .k (.n .u64), .k (.n .u64), .k (.n .u64), .k (.n .u64)]]⟩
def xsh_rLine_7_0 : FSh := ⟨[.any, .any, .any, .any, .v false [.p 1 0], .any, .v false [.p 2 0], .any, .any, .any, .any, .any, .any, .any, .any, .any, .any, .any, .any, .any, .any, .any, .any, .any, .any, .any, .any, .any, .any, .any, .any, .any, .any, .any, .any, .any, .any, .any, .any, .any, .any, .any, .any, .any, .any, .any, .any, .any, .any, .any, .any, .any, .any, .any, .any, .any, .any, .any, .any, .any, .any, .any, .any, .any, .any, .any, .any, .any, .any, .any, .any, .any, .any, .any], [.no, .cells [.k (.n .u64), .k (.n .u64), .k (.n .u64), .k (.n .u64), .k (.n .u64), .k (.n .u64), .k (.n .u64), .k (.n .u64)], .cells [.k (.n .u64), .k (.n .u64), .k (.n .u64), .k (.n .u64), .k (.n .u64), .k (.n .u64), .k (.n .u64), .k (.n .u64)]]⟩
def xsh_rLine_7_1 : FSh := ⟨[.any, .any, .any, .any, .v false [.p 1 0], .v false [.k (.n .i64)], .any, .any, .any, .any, .any, .any, .any, .any, .any, .any, .any, .any, .any, .any, .any, .any, .any, .any, .any, .any, .any, .any, .any, .any, .any, .any, .any, .any, .any, .any, .any, .any, .any, .any, .any, .any, .any, .any, .any, .any, .any, .any, .any, .any, .any, .any, .any, .any, .any, .any, .any, .any, .any, .any, .any, .any, .any, .any, .any, .any, .any, .any, .any, .any, .any, .any, .any, .any], [.no, .cells [.k (.n .u64), .k (.n .u64), .k (.n .u64), .k (.n .u64), .k (.n .u64), .k (.n .u64), .k (.n .u64), .k (.n .u64)]]⟩
def xs_rLine_7 : Exs := fun e => match e with
  | .normal => some lsh_rLine_7
  | .exit n => (match Nat.beq n 0 with | true => some xsh_rLine_7_0 | false => none)
  | .ret => some xsh_rLine_7_1
def B_rLine_7 (x0 : Nat) (x1 : Nat) (x2 : Int) (n3 : Nat) (g3 : Nat → Nat → Int) (x4 : Int) (x5 : Int) (x6 : Int) (x7 : Int) (x8 : Int) (x9 : Int) (x10 : Int) (x11 : Int) (x12 : Int) (x13 : Int) (x14 : Int) (x15 : Int) (x16 : Int) (x17 : Int) (x18 : Int) (x19 : Int) : Tr (Ex × List At) :=
 .br 49 (decide (x2 < (↑x1 : Int)))
 (.br 54 (within x2 x1)
 (.br 57 (decide (g3 (x0 + Int.toNat x2) (0 : Nat) < (0 : Int)))
 (.ok (.ret, [(.i ((1 : Int))), (.i ((0 : Int))), (.i ((0 : Int))), (.i ((0 : Int))), (.i ((0 : Int))), (.i ((0 : Int))), (.i ((0 : Int))), (.i ((0 : Int))), (.i ((0 : Int)))]))
 (.br 60 (within x2 x1)
 (.br 63 (decide (g3 (x0 + Int.toNat x2) (0 : Nat) ≥ (49 : Int)))
 (.ok (.ret, [(.i ((1 : Int))), (.i ((0 : Int))), (.i ((0 : Int))), (.i ((0 : Int))), (.i ((0 : Int))), (.i ((0 : Int))), (.i ((0 : Int))), (.i ((0 : Int))), (.i ((0 : Int)))]))
 (.br 69 (within x2 x1)
 (.br 200072 (within (IntKind.wrap IntKind.i64 (x2 + (1 : Int))) (8 : Nat))
 (.ok (.normal, [(.n (x0)), (.n (x1)), (.i (IntKind.wrap IntKind.i64 (x2 + (1 : Int)))), (.r (n3) (g3)), (.i (x4)), (.i (x5)), (.i (x6)), (.i (x7)), (.i (x8)), (.i (x9)), (.i (x10)), (.i (x11)), (.i (bif Nat.beq (Int.toNat (IntKind.wrap IntKind.i64 (x2 + (1 : Int)))) (0 : Nat) then IntKind.wrap IntKind.u64 (g3 (x0 + Int.toNat x2) (0 : Nat)) else x12)), (.i (bif Nat.beq (Int.toNat (IntKind.wrap IntKind.i64 (x2 + (1 : Int)))) (1 : Nat) then IntKind.wrap IntKind.u64 (g3 (x0 + Int.toNat x2) (0 : Nat)) else x13)), (.i (bif Nat.beq (Int.toNat (IntKind.wrap IntKind.i64 (x2 + (1 : Int)))) (2 : Nat) then IntKind.wrap IntKind.u64 (g3 (x0 + Int.toNat x2) (0 : Nat)) else x14)), (.i (bif Nat.beq (Int.toNat (IntKind.wrap IntKind.i64 (x2 + (1 : Int)))) (3 : Nat) then IntKind.wrap IntKind.u64 (g3 (x0 + Int.toNat x2) (0 : Nat)) else x15)), (.i (bif Nat.beq (Int.toNat (IntKind.wrap IntKind.i64 (x2 + (1 : Int)))) (4 : Nat) then IntKind.wrap IntKind.u64 (g3 (x0 + Int.toNat x2) (0 : Nat)) else x16)), (.i (bif Nat.beq (Int.toNat (IntKind.wrap IntKind.i64 (x2 + (1 : Int)))) (5 : Nat) then IntKind.wrap IntKind.u64 (g3 (x0 + Int.toNat x2) (0 : Nat)) else x17)), (.i (bif Nat.beq (Int.toNat (IntKind.wrap IntKind.i64 (x2 + (1 : Int)))) (6 : Nat) then IntKind.wrap IntKind.u64 (g3 (x0 + Int.toNat x2) (0 : Nat)) else x18)), (.i (bif Nat.beq (Int.toNat (IntKind.wrap IntKind.i64 (x2 + (1 : Int)))) (7 : Nat) then IntKind.wrap IntKind.u64 (g3 (x0 + Int.toNat x2) (0 : Nat)) else x19))]))
 (.no))
 (.no)))
 (.no)))
 (.no))
 (.ok (.exit 0, [(.i (x4)), (.i (x5)), (.i (x6)), (.i (x7)), (.i (x8)), (.i (x9)), (.i (x10)), (.i (x11)), (.i (x12)), (.i (x13)), (.i (x14)), (.i (x15)), (.i (x16)), (.i (x17)), (.i (x18)), (.i (x19))]))
def y_rLine_7 : Nat → Option Nat := (syOf3 [49, 54, 57, 60, 63, 69] [] [72])
def BL_rLine_7 (l : List At) : Tr (Ex × List At) := B_rLine_7 (aN l 0) (aN l 1) (aI l 2) (aRn l 3) (aRg l 3) (aI l 4) (aI l 5) (aI l 6) (aI l 7) (aI l 8) (aI l 9) (aI l 10) (aI l 11) (aI l 12) (aI l 13) (aI l 14) (aI l 15) (aI l 16) (aI l 17) (aI l 18) (aI l 19)
theorem eB_rLine_7 (l : List At) : (exec Try.prog Γ_hasF y_rLine_7 noLoops 100 (loopAt Try.f9 7) ⟨mkV lsh_rLine_7 l, mkH lsh_rLine_7 l⟩).bind (leafL 1 xs_rLine_7) = BL_rLine_7 l := by kernel_rfl
/- by hand: O_rLine_7 (x0 : Nat) (x1 : Nat) (x2 : Int) (n3 : Nat) (g3 : Nat → Nat → Int) (x4 : Int) (x5 : Int) (x6 : Int) (x7 : Int) (x8 : Int) (x9 : Int) (x10 : Int) (x11 : Int) (x12 : Int) (x13 : Int) (x14 : Int) (x15 : Int) (x16 : Int) (x17 : Int) (x18 : Int) (x19 : Int) : Tr (Ex × List At); OL_rLine_7 (l) := O_rLine_7 (aN l 0) (aN l 1) (aI l 2) (aRn l 3) (aRg l 3) (aI l 4) (aI l 5) (aI l 6) (aI l 7) (aI l 8) (aI l 9) (aI l 10) (aI l 11) (aI l 12) (aI l 13) (aI l 14) (aI l 15) (aI l 16) (aI l 17) (aI l 18) (aI l 19); μ_rLine_7 : List At → Nat; rd_rLine_7 : ∀ l r, (OL_rLine_7 l).val = some r → RoundA BL_rLine_7 OL_rLine_7 μ_rLine_7 l r -/

end Go.Proofs.Ytepdekambalmhaa.G
