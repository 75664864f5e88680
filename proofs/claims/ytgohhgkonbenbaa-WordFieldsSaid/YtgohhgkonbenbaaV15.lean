/-
  The rounds of the loops of the reference's Field and With.
-/
import Derived.Test.YtgohhgkonbenbaaG15s
import Derived.Test.YtgohhgkonbenbaaAmW
namespace Go.Proofs.Ytgohhgkonbenbaa.G
open Go Go.AM

theorem ok25_of {x i : Int} (h : 0 ≤ i) : ok25 x i = true := by simp [ok25, h]

theorem m15_5 : LoopF Try.prog (loopAt Try.f15 5) F15_5 := by
  refine f15_5 (noLoops_ok _) (fun (_, _, _, x8, _, _, x2) => (x2 - x8).toNat) ?_
  rintro ⟨a, H, x7, x8, x0, x1, x2⟩ hp
  simp only [sP15_5, pre15_5, Bool.and_eq_true, decide_eq_true_eq] at hp
  obtain ⟨⟨⟨⟨h1, h2⟩, h3⟩, h4⟩, h5⟩ := hp
  by_cases hc : x8 < x2
  · have w1 := wrap_i64 (x := x1 + x8) (by omega) (by omega)
    have w2 := wrap_i64 (x := x8 + 1) (by omega) (by omega)
    have e : (x2 - x8).toNat = (x2 - IntKind.i64.wrap (x8 + 1)).toNat + 1 := by omega
    refine Round.on (a, H, bits BinOp.or IntKind.u64 x7 (IntKind.u64.wrap (r25_0 x0 (IntKind.i64.wrap (x1 + x8)) * 2 ^ shiftN IntKind.u64 x8)), IntKind.i64.wrap (x8 + 1), x0, x1, x2) ?_ ?_ ?_ ?_
    · simp only [sP15_5, pre15_5, w2, Bool.and_eq_true, decide_eq_true_eq]; omega
    · simp only [w2]; omega
    · simp only [sO15_5, O15_5, g15_5_0_7]
      rw [e, fieldL]
    · simp only [sB15_5, B15_5, Tr.val, hc, decide_true, ok25_of (x := x0) (show 0 ≤ IntKind.i64.wrap (x1 + x8) by omega), h1]
      exact onto_mk (by simp [All2, weakB])
  · refine Round.off _ _ (by simp) rfl ?_
    simp only [sB15_5, B15_5, Tr.val, hc, decide_false]
    refine onto_mk ?_
    simp [All2, weakB, g15_5_0_7, show (x2 - x8).toNat = 0 by omega, fieldL]

theorem l15 : LoopsFn Try.prog (noLoops.set 5 F15_5) Try.f15 := loopsFn_set (noLoops_ok _) (by kernel_rfl) m15_5

theorem m13_4 : LoopF Try.prog (loopAt Try.f13 4) F13_4 := by
  refine f13_4 (noLoops_ok _) (fun (_, _, x10, _) => (64 - x10).toNat) ?_
  rintro ⟨a, H, x10, x3⟩ hp
  simp only [sP13_4, pre13_4, Bool.and_eq_true, decide_eq_true_eq] at hp
  obtain ⟨h1, h2⟩ := hp
  by_cases hc : x10 < 64
  · have w2 := wrap_i64 (x := x10 + 1) (by omega) (by omega)
    have e : (64 - x10).toNat = (64 - IntKind.i64.wrap (x10 + 1)).toNat + 1 := by omega
    cases hb : (r25_0 x3 x10 == 1) with
    | false =>
      refine Round.on (a, H, IntKind.i64.wrap (x10 + 1), x3) ?_ ?_ ?_ ?_
      · simp only [sP13_4, pre13_4, w2, Bool.and_eq_true, decide_eq_true_eq]; omega
      · simp only [w2]; omega
      · simp only [sO13_4, O13_4, sel13_4_0, g13_4_0_8, g13_4_0_9]
        rw [e, anyL, hb, Bool.false_or]
      · simp only [sB13_4, B13_4, Tr.val, hc, decide_true, ok25_of h1, hb]
        exact onto_mk (by simp [All2, weakB])
    | true =>
      have hs : sel13_4_0 x10 x3 = true := by rw [sel13_4_0, e, anyL, hb, Bool.true_or]
      refine Round.off .ret _ (by simp) (by simp only [sO13_4, O13_4, hs, Tr.val]; rfl) ?_
      simp only [sB13_4, B13_4, Tr.val, hc, decide_true, ok25_of h1, hb]
      exact onto_mk (by simp [All2, weakB, g13_4_0_8, g13_4_0_9])
  · have hs : sel13_4_0 x10 x3 = false := by rw [sel13_4_0, show (64 - x10).toNat = 0 by omega, anyL]
    refine Round.off (.exit 0) _ (by simp) (by simp only [sO13_4, O13_4, hs, Tr.val]; rfl) ?_
    simp only [sB13_4, B13_4, Tr.val, hc, decide_false]
    exact onto_mk (by simp [All2, weakB])

theorem m13_9 : LoopF Try.prog (loopAt Try.f13 9) F13_9 := by
  refine f13_9 (noLoops_ok _) (fun (_, _, _, x11, _, x2, _) => (x2 - x11).toNat) ?_
  rintro ⟨a, H, x0, x11, x1, x2, x3⟩ hp
  simp only [sP13_9, pre13_9, Bool.and_eq_true, decide_eq_true_eq] at hp
  obtain ⟨⟨⟨⟨h1, h2⟩, h3⟩, h4⟩, h5⟩ := hp
  by_cases hc : x11 < x2
  · have w1 := wrap_i64 (x := x1 + x11) (by omega) (by omega)
    have w2 := wrap_i64 (x := x11 + 1) (by omega) (by omega)
    have h6 : 0 ≤ IntKind.i64.wrap (x1 + x11) := by omega
    have e : (x2 - x11).toNat = (x2 - IntKind.i64.wrap (x11 + 1)).toNat + 1 := by omega
    refine Round.on (a, H, bif r25_0 x3 x11 != r25_0 x0 (IntKind.i64.wrap (x1 + x11)) then bits BinOp.xor IntKind.u64 x0 (IntKind.u64.wrap (1 * 2 ^ shiftN IntKind.u64 (IntKind.i64.wrap (x1 + x11)))) else x0, IntKind.i64.wrap (x11 + 1), x1, x2, x3) ?_ ?_ ?_ ?_
    · simp only [sP13_9, pre13_9, w2, Bool.and_eq_true, decide_eq_true_eq]; omega
    · simp only [w2]; omega
    · simp only [sO13_9, O13_9, g13_9_0_0]
      rw [e, withL]
    · simp only [sB13_9, B13_9, Tr.val, hc, decide_true, ok25_of (x := x0) h6, ok25_of (x := x3) h1, h6]
      cases hb : (r25_0 x3 x11 != r25_0 x0 (IntKind.i64.wrap (x1 + x11)))
      · exact onto_mk (by simp [All2, weakB])
      · exact onto_mk (by simp [All2, weakB])
  · refine Round.off _ _ (by simp) rfl ?_
    simp only [sB13_9, B13_9, Tr.val, hc, decide_false]
    exact onto_mk (by simp [All2, weakB, g13_9_0_0, show (x2 - x11).toNat = 0 by omega, withL])

theorem l13 : LoopsFn Try.prog ((noLoops.set 4 F13_4).set 9 F13_9) Try.f13 := loopsFn_set (loopsFn_set (noLoops_ok _) (by kernel_rfl) m13_4) (by kernel_rfl) m13_9
end Go.Proofs.Ytgohhgkonbenbaa.G
