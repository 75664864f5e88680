/-
  The reference's reading of a line is the code's.
-/
import Derived.Test.YtpllgemflpnioaaGB
import Derived.KernelRfl
namespace Go.Proofs.Ytpllgemflpnioaa.G
open Go Go.AM Go.Proofs

theorem parts {n a d : Nat} (hn : n < 18446744073709551616) (hd : 1 ≤ d) (hd2 : d ≤ 32) (h : a + d ≤ 64) : ok_rField (n : Int) (a : Int) (d : Int) = true ∧ IntKind.wrap IntKind.i64 (r_rField_0 (n : Int) (a : Int) (d : Int)) = r_gPart_0 (a : Int) (d : Int) (n : Int) := by
  obtain ⟨h1, h2⟩ := rField_eq hn hd h
  refine ⟨h1, ?_⟩
  rw [part_eq hn hd hd2 h, h2, field_mod]
  have hl : n / 2 ^ a % 2 ^ d < 2 ^ d := Nat.mod_lt _ (Nat.two_pow_pos d)
  have : 2 ^ d ≤ 2 ^ 32 := Nat.pow_le_pow_right (by decide) hd2
  rw [wrap_i64 (by omega) (by omega)]

theorem t_qOf (x0 x1 x2 x3 x4 x5 x6 x7 : Int) (h0 : 0 ≤ x7) (h1 : x7 < 18446744073709551616) : (T_qOf x0 x1 x2 x3 x4 x5 x6 x7).sat fun r => r = [.i (r_gOf_0 x0 x1 x2 x3 x4 x5 x6 x7), .i (r_gOf_1 x0 x1 x2 x3 x4 x5 x6 x7), .i (r_gOf_2 x0 x1 x2 x3 x4 x5 x6 x7), .i (r_gOf_3 x0 x1 x2 x3 x4 x5 x6 x7), .i (r_gOf_4 x0 x1 x2 x3 x4 x5 x6 x7), .i (r_gOf_5 x0 x1 x2 x3 x4 x5 x6 x7), .i (r_gOf_6 x0 x1 x2 x3 x4 x5 x6 x7), .i (r_gOf_7 x0 x1 x2 x3 x4 x5 x6 x7), .i (r_gOf_8 x0 x1 x2 x3 x4 x5 x6 x7), .i (r_gOf_9 x0 x1 x2 x3 x4 x5 x6 x7), .i (r_gOf_10 x0 x1 x2 x3 x4 x5 x6 x7), .b (r_gOf_11 x0 x1 x2 x3 x4 x5 x6 x7)] := by
  obtain ⟨n, rfl⟩ := Int.eq_ofNat_of_zero_le h0
  have hn : n < 18446744073709551616 := by omega
  obtain ⟨o1, e1⟩ := parts (a := 0) (d := 4) hn (by decide) (by decide) (by decide)
  obtain ⟨o2, e2⟩ := parts (a := 4) (d := 16) hn (by decide) (by decide) (by decide)
  obtain ⟨o3, e3⟩ := parts (a := 20) (d := 4) hn (by decide) (by decide) (by decide)
  obtain ⟨o4, e4⟩ := parts (a := 24) (d := 1) hn (by decide) (by decide) (by decide)
  have e1 : IntKind.wrap IntKind.i64 (r_rField_0 (n : Int) 0 4) = r_gPart_0 0 4 (n : Int) := e1
  have e2 : IntKind.wrap IntKind.i64 (r_rField_0 (n : Int) 4 16) = r_gPart_0 4 16 (n : Int) := e2
  have e3 : IntKind.wrap IntKind.i64 (r_rField_0 (n : Int) 20 4) = r_gPart_0 20 4 (n : Int) := e3
  have e4 : IntKind.wrap IntKind.i64 (r_rField_0 (n : Int) 24 1) = r_gPart_0 24 1 (n : Int) := e4
  have n1 : r_rNumber_1 x0 1099511627776 = r_wNumber_1 x0 1099511627776 := rfl
  have n0 : r_rNumber_0 x0 1099511627776 = r_wNumber_0 x0 1099511627776 := rfl
  unfold T_qOf
  rw [n1, n0, e1, e2, e3, e4]
  refine brC (fun hA => ?_) (fun hA => brT o1 (brT o2 (brT o3 (brT o4 (brC (fun hB => ?_) (fun hB => brC (fun hC => ?_) (fun hC => ?_)))))))
  · exact Tr.sat_ok.2 (by simp only [r_gOf_0, r_gOf_1, r_gOf_2, r_gOf_3, r_gOf_4, r_gOf_5, r_gOf_6, r_gOf_7, r_gOf_8, r_gOf_9, r_gOf_10, r_gOf_11, hA, cond_true])
  · exact Tr.sat_ok.2 (by simp only [r_gOf_0, r_gOf_1, r_gOf_2, r_gOf_3, r_gOf_4, r_gOf_5, r_gOf_6, r_gOf_7, r_gOf_8, r_gOf_9, r_gOf_10, r_gOf_11, hA, hB, qa, qb, qc, qd, cond_true, cond_false])
  · exact Tr.sat_ok.2 (by simp only [r_gOf_0, r_gOf_1, r_gOf_2, r_gOf_3, r_gOf_4, r_gOf_5, r_gOf_6, r_gOf_7, r_gOf_8, r_gOf_9, r_gOf_10, r_gOf_11, hA, hB, hC, qa, qb, qc, qd, cond_true, cond_false])
  · exact Tr.sat_ok.2 (by simp only [r_gOf_0, r_gOf_1, r_gOf_2, r_gOf_3, r_gOf_4, r_gOf_5, r_gOf_6, r_gOf_7, r_gOf_8, r_gOf_9, r_gOf_10, r_gOf_11, hA, hB, hC, qa, qb, qc, qd, cond_true, cond_false])

def F2_qOf (l : List At) : Tr (List At) := .br 0 (decide (0 ≤ aI l 7 ∧ aI l 7 < 18446744073709551616)) (F_gOf l) .no
theorem h_qOf : ∀ l r, (F2_qOf l).val = some r → ∃ r', ((call Try.prog Γ_SA y_qOf noLoops 100 Try.f11 (mkV ish_qOf l) (mkH ish_qOf l)).bind (leafO 0 osh_qOf)).val = some r' ∧ AtsEq r' r := by
  intro l r h
  obtain ⟨hc, h⟩ := guard_val h
  obtain ⟨_, h⟩ := guard_val h
  have := val_ok h
  subst this
  have hc := of_decide_eq_true hc
  obtain ⟨r', h1, h2⟩ := t_qOf (aI l 0) (aI l 1) (aI l 2) (aI l 3) (aI l 4) (aI l 5) (aI l 6) (aI l 7) hc.1 hc.2
  exact ⟨r', by rw [e_qOf]; exact h1, by rw [h2]; exact AtsEq.refl _⟩
theorem s2_qOf : SpecF Try.prog 11 (.pure (locP ish_qOf osh_qOf F2_qOf)) :=
  spec_locP (sy := y_qOf) (fuel := 100) (Lp := noLoops) o_SA mixed ⟨Try.func11, by kernel_rfl, by kernel_rfl⟩ ish_qOf osh_qOf rfl (noLoops_ok _) h_qOf
def Γ_SB : Specs := upd Γ_qOf 11 (.pure (locP ish_qOf osh_qOf F2_qOf))
theorem o_SB : SpecOK Try.prog Γ_SB := SpecOK.upd o_qOf s2_qOf
end Go.Proofs.Ytpllgemflpnioaa.G
