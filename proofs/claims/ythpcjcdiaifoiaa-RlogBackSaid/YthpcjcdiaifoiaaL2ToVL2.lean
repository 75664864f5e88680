/-
  What functions of the seat compute, printed by a program from the explorer.
-/
import Derived.Test.YthpcjcdiaifoiaaE6ToS9
import Derived.KernelRfl
import Derived.Test.YthpcjcdiaifoiaaCrcVToO11
section
namespace Go.Proofs.Ythpcjcdiaifoiaa.G
open Go Go.AM Go.Proofs
/-! ### RlogBack -/

noncomputable def ish_RlogBack : FSh := ⟨[.v true [.k (.n .i64), .k (.n .i64), .k (.n .i64), .k (.n .u64)]], []⟩
noncomputable def osh_RlogBack : FSh := ⟨[.v false [.k .b]], []⟩
noncomputable def T_RlogBack (x0 : Int) (x1 : Int) (x2 : Int) (x3 : Int) : Tr (List At) :=
 .br 0 (Go.Proofs.Ythpcjcdiaifoiaa.G.ok_lLine x0 x1 x2 x3)
 (.br 15 (Go.Proofs.Ythpcjcdiaifoiaa.G.r_lLine_8 x0 x1 x2 x3 != (0 : Int))
 (.ok [(.b (Go.Proofs.Ythpcjcdiaifoiaa.G.r_lLine_0 x0 x1 x2 x3 == (0 : Int) && (Go.Proofs.Ythpcjcdiaifoiaa.G.r_lLine_1 x0 x1 x2 x3 == (0 : Int) && (Go.Proofs.Ythpcjcdiaifoiaa.G.r_lLine_2 x0 x1 x2 x3 == (0 : Int) && (Go.Proofs.Ythpcjcdiaifoiaa.G.r_lLine_3 x0 x1 x2 x3 == (0 : Int) && (Go.Proofs.Ythpcjcdiaifoiaa.G.r_lLine_4 x0 x1 x2 x3 == (0 : Int) && (Go.Proofs.Ythpcjcdiaifoiaa.G.r_lLine_5 x0 x1 x2 x3 == (0 : Int) && (Go.Proofs.Ythpcjcdiaifoiaa.G.r_lLine_6 x0 x1 x2 x3 == (0 : Int) && (Go.Proofs.Ythpcjcdiaifoiaa.G.r_lLine_7 x0 x1 x2 x3 == (0 : Int) && Bool.true)))))))))])
 (.br 0 (Go.Proofs.Ythpcjcdiaifoiaa.G.ok_lRead (Go.Proofs.Ythpcjcdiaifoiaa.G.r_lLine_0 x0 x1 x2 x3) (Go.Proofs.Ythpcjcdiaifoiaa.G.r_lLine_1 x0 x1 x2 x3) (Go.Proofs.Ythpcjcdiaifoiaa.G.r_lLine_2 x0 x1 x2 x3) (Go.Proofs.Ythpcjcdiaifoiaa.G.r_lLine_3 x0 x1 x2 x3) (Go.Proofs.Ythpcjcdiaifoiaa.G.r_lLine_4 x0 x1 x2 x3) (Go.Proofs.Ythpcjcdiaifoiaa.G.r_lLine_5 x0 x1 x2 x3) (Go.Proofs.Ythpcjcdiaifoiaa.G.r_lLine_6 x0 x1 x2 x3) (Go.Proofs.Ythpcjcdiaifoiaa.G.r_lLine_7 x0 x1 x2 x3))
 (.br 31 (Go.Proofs.Ythpcjcdiaifoiaa.G.r_lRead_4 (Go.Proofs.Ythpcjcdiaifoiaa.G.r_lLine_0 x0 x1 x2 x3) (Go.Proofs.Ythpcjcdiaifoiaa.G.r_lLine_1 x0 x1 x2 x3) (Go.Proofs.Ythpcjcdiaifoiaa.G.r_lLine_2 x0 x1 x2 x3) (Go.Proofs.Ythpcjcdiaifoiaa.G.r_lLine_3 x0 x1 x2 x3) (Go.Proofs.Ythpcjcdiaifoiaa.G.r_lLine_4 x0 x1 x2 x3) (Go.Proofs.Ythpcjcdiaifoiaa.G.r_lLine_5 x0 x1 x2 x3) (Go.Proofs.Ythpcjcdiaifoiaa.G.r_lLine_6 x0 x1 x2 x3) (Go.Proofs.Ythpcjcdiaifoiaa.G.r_lLine_7 x0 x1 x2 x3))
 (.br 36 (Go.Proofs.Ythpcjcdiaifoiaa.G.r_lRead_0 (Go.Proofs.Ythpcjcdiaifoiaa.G.r_lLine_0 x0 x1 x2 x3) (Go.Proofs.Ythpcjcdiaifoiaa.G.r_lLine_1 x0 x1 x2 x3) (Go.Proofs.Ythpcjcdiaifoiaa.G.r_lLine_2 x0 x1 x2 x3) (Go.Proofs.Ythpcjcdiaifoiaa.G.r_lLine_3 x0 x1 x2 x3) (Go.Proofs.Ythpcjcdiaifoiaa.G.r_lLine_4 x0 x1 x2 x3) (Go.Proofs.Ythpcjcdiaifoiaa.G.r_lLine_5 x0 x1 x2 x3) (Go.Proofs.Ythpcjcdiaifoiaa.G.r_lLine_6 x0 x1 x2 x3) (Go.Proofs.Ythpcjcdiaifoiaa.G.r_lLine_7 x0 x1 x2 x3) == x0 && (Go.Proofs.Ythpcjcdiaifoiaa.G.r_lRead_1 (Go.Proofs.Ythpcjcdiaifoiaa.G.r_lLine_0 x0 x1 x2 x3) (Go.Proofs.Ythpcjcdiaifoiaa.G.r_lLine_1 x0 x1 x2 x3) (Go.Proofs.Ythpcjcdiaifoiaa.G.r_lLine_2 x0 x1 x2 x3) (Go.Proofs.Ythpcjcdiaifoiaa.G.r_lLine_3 x0 x1 x2 x3) (Go.Proofs.Ythpcjcdiaifoiaa.G.r_lLine_4 x0 x1 x2 x3) (Go.Proofs.Ythpcjcdiaifoiaa.G.r_lLine_5 x0 x1 x2 x3) (Go.Proofs.Ythpcjcdiaifoiaa.G.r_lLine_6 x0 x1 x2 x3) (Go.Proofs.Ythpcjcdiaifoiaa.G.r_lLine_7 x0 x1 x2 x3) == x1 && (Go.Proofs.Ythpcjcdiaifoiaa.G.r_lRead_2 (Go.Proofs.Ythpcjcdiaifoiaa.G.r_lLine_0 x0 x1 x2 x3) (Go.Proofs.Ythpcjcdiaifoiaa.G.r_lLine_1 x0 x1 x2 x3) (Go.Proofs.Ythpcjcdiaifoiaa.G.r_lLine_2 x0 x1 x2 x3) (Go.Proofs.Ythpcjcdiaifoiaa.G.r_lLine_3 x0 x1 x2 x3) (Go.Proofs.Ythpcjcdiaifoiaa.G.r_lLine_4 x0 x1 x2 x3) (Go.Proofs.Ythpcjcdiaifoiaa.G.r_lLine_5 x0 x1 x2 x3) (Go.Proofs.Ythpcjcdiaifoiaa.G.r_lLine_6 x0 x1 x2 x3) (Go.Proofs.Ythpcjcdiaifoiaa.G.r_lLine_7 x0 x1 x2 x3) == x2 && (Go.Proofs.Ythpcjcdiaifoiaa.G.r_lRead_3 (Go.Proofs.Ythpcjcdiaifoiaa.G.r_lLine_0 x0 x1 x2 x3) (Go.Proofs.Ythpcjcdiaifoiaa.G.r_lLine_1 x0 x1 x2 x3) (Go.Proofs.Ythpcjcdiaifoiaa.G.r_lLine_2 x0 x1 x2 x3) (Go.Proofs.Ythpcjcdiaifoiaa.G.r_lLine_3 x0 x1 x2 x3) (Go.Proofs.Ythpcjcdiaifoiaa.G.r_lLine_4 x0 x1 x2 x3) (Go.Proofs.Ythpcjcdiaifoiaa.G.r_lLine_5 x0 x1 x2 x3) (Go.Proofs.Ythpcjcdiaifoiaa.G.r_lLine_6 x0 x1 x2 x3) (Go.Proofs.Ythpcjcdiaifoiaa.G.r_lLine_7 x0 x1 x2 x3) == x3 && Bool.true))))
 (.br 0 (Go.Proofs.Ythpcjcdiaifoiaa.G.ok_crcGood (Go.Proofs.Ythpcjcdiaifoiaa.G.r_lLine_0 x0 x1 x2 x3) (Go.Proofs.Ythpcjcdiaifoiaa.G.r_lLine_1 x0 x1 x2 x3) (Go.Proofs.Ythpcjcdiaifoiaa.G.r_lLine_2 x0 x1 x2 x3) (Go.Proofs.Ythpcjcdiaifoiaa.G.r_lLine_3 x0 x1 x2 x3) (Go.Proofs.Ythpcjcdiaifoiaa.G.r_lLine_4 x0 x1 x2 x3) (Go.Proofs.Ythpcjcdiaifoiaa.G.r_lLine_5 x0 x1 x2 x3) (Go.Proofs.Ythpcjcdiaifoiaa.G.r_lLine_6 x0 x1 x2 x3) (Go.Proofs.Ythpcjcdiaifoiaa.G.r_lLine_7 x0 x1 x2 x3))
 (.ok [(.b (Go.Proofs.Ythpcjcdiaifoiaa.G.r_crcGood_0 (Go.Proofs.Ythpcjcdiaifoiaa.G.r_lLine_0 x0 x1 x2 x3) (Go.Proofs.Ythpcjcdiaifoiaa.G.r_lLine_1 x0 x1 x2 x3) (Go.Proofs.Ythpcjcdiaifoiaa.G.r_lLine_2 x0 x1 x2 x3) (Go.Proofs.Ythpcjcdiaifoiaa.G.r_lLine_3 x0 x1 x2 x3) (Go.Proofs.Ythpcjcdiaifoiaa.G.r_lLine_4 x0 x1 x2 x3) (Go.Proofs.Ythpcjcdiaifoiaa.G.r_lLine_5 x0 x1 x2 x3) (Go.Proofs.Ythpcjcdiaifoiaa.G.r_lLine_6 x0 x1 x2 x3) (Go.Proofs.Ythpcjcdiaifoiaa.G.r_lLine_7 x0 x1 x2 x3)))])
 (.no))
 (.ok [(.b (Bool.false))]))
 (.ok [(.b (Bool.false))]))
 (.no)))
 (.no)
noncomputable def y_RlogBack : Nat → Option Nat := (syOf3 [15, 31, 36] [] [])
noncomputable def TL_RlogBack (l : List At) : Tr (List At) := T_RlogBack (aI l 0) (aI l 1) (aI l 2) (aI l 3)
theorem e_RlogBack (l : List At) : (call Try.prog Γ_S9 y_RlogBack noLoops 100 Try.f7 (mkV ish_RlogBack l) (mkH ish_RlogBack l)).bind (leafO ish_RlogBack.hp.length ⟨[.v false [.k .b]], List.replicate ish_RlogBack.hp.length .no⟩) = TL_RlogBack l := by kernel_rfl

end Go.Proofs.Ythpcjcdiaifoiaa.G
end

/-
  The plain law of RlogBack.
-/
section
namespace Go.Proofs.Ythpcjcdiaifoiaa.G
open Go Go.AM Go.Proofs

theorem lline_good {x0 x1 x2 x3 : Int} (h3 : 0 ≤ x3) (hs : rb x0 x1 x2 = true) : r_crcGood_0 (r_lLine_0 x0 x1 x2 x3) (r_lLine_1 x0 x1 x2 x3) (r_lLine_2 x0 x1 x2 x3) (r_lLine_3 x0 x1 x2 x3) (r_lLine_4 x0 x1 x2 x3) (r_lLine_5 x0 x1 x2 x3) (r_lLine_6 x0 x1 x2 x3) (r_lLine_7 x0 x1 x2 x3) = true := by
  simp only [s0, s1, s2, s3, s4, s5, s6, s7 _ _ _ _ h3, hs, cond_true]
  rw [good_eq _ (by decide) (wu x0) (wu x1) (wu x2) h3 (by decide) (by decide)]
  simp [sealS]

theorem vc_RlogBack (x0 x1 x2 x3 : Int) (_ : IntKind.min .i64 ≤ x0) (_ : x0 ≤ IntKind.max .i64) (_ : IntKind.min .i64 ≤ x1) (_ : x1 ≤ IntKind.max .i64) (_ : IntKind.min .i64 ≤ x2) (_ : x2 ≤ IntKind.max .i64) (h3 : IntKind.min .u64 ≤ x3) (_ : x3 ≤ IntKind.max .u64) :
    (T_RlogBack x0 x1 x2 x3).sat fun r => r = [.b true] := by
  have h3 : 0 ≤ x3 := h3
  cases hs : rb x0 x1 x2 with
  | false =>
    simp only [T_RlogBack, Tr.sat_br, Tr.sat_ok, Tr.sat_no, lsk, s0, s1, s2, s3, s4, s5, s6, s7 _ _ _ _ h3, s8, hs, cond_false]
    simp [rb] at hs ⊢
    try omega
  | true =>
    obtain ⟨q4, q0, q1, q2, q3⟩ := lread_line (x3 := x3) hs
    have e8 : r_lLine_8 x0 x1 x2 x3 = 0 := by rw [s8, hs]; rfl
    have hr := hs
    simp only [rb, decide_eq_true_eq] at hr
    simp only [T_RlogBack, Tr.sat_br, Tr.sat_ok, Tr.sat_no, lsk, lrk, good_ok, e8, q0, q1, q2, q3, q4, lline_good h3 hs, beq_self_eq_true]
    simp
    try omega
end Go.Proofs.Ythpcjcdiaifoiaa.G
end
