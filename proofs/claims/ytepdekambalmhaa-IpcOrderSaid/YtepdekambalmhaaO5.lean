/-
  What the loop in which they wait, one behind the other, comes to.
-/
import Derived.Test.YtepdekambalmhaaC5
import Derived.Test.YtepdekambalmhaaL5
namespace Go.Proofs.Ytepdekambalmhaa.G
open Go Go.AM Go.Proofs

noncomputable def pdec (p : Prop) : Bool := @decide p (Classical.propDecidable p)
theorem pdec_yes {p : Prop} (h : p) : pdec p = true := @decide_eq_true p (Classical.propDecidable p) h
theorem of_pdec {p : Prop} (h : pdec p = true) : p := @of_decide_eq_true p (Classical.propDecidable p) h

def gcol (G : Nat → Int) : Nat → Nat → Int := fun k c => match c with
  | 0 => G k
  | _ + 1 => 0

def pre10 (x1 : Nat) (x3 x5 x7 x8 x9 x10 x11 x12 x13 x14 : Int) (G : Nat → Int) (n15 : Nat) (g15 : Nat → Nat → Int) : Prop :=
  0 ≤ x5 ∧ x5 ≤ x1 ∧ x5 ≤ 9 ∧ (x3 = 3 ∨ x3 = 4) ∧ n15 = min x5.toNat 7 ∧ (x7 = lineAt x3 n15 G 0 ∧ x8 = lineAt x3 n15 G 1 ∧ x9 = lineAt x3 n15 G 2 ∧ x10 = lineAt x3 n15 G 3 ∧ x11 = lineAt x3 n15 G 4 ∧ x12 = lineAt x3 n15 G 5 ∧ x13 = lineAt x3 n15 G 6 ∧ x14 = lineAt x3 n15 G 7) ∧ ∀ k, k < n15 → ∀ c, g15 k c = gcol G k c

noncomputable def O_IpcOrder_10 (x0 x1 : Nat) (x2 : Bool) (x3 x4 x5 : Int) (_n6 : Nat) (g6 : Nat → Nat → Int) (x7 x8 x9 x10 x11 x12 x13 x14 : Int) (n15 : Nat) (g15 : Nat → Nat → Int) : Tr (Ex × List At) :=
  .br 0 (pdec (pre10 x1 x3 x5 x7 x8 x9 x10 x11 x12 x13 x14 (fun k => idv (g6 (x0 + k) 0)) n15 g15)) (.ok (.exit 0, [.b x2, .i x3, .i x4, .i (lineAt x3 (min (min x1 9) 7) (fun k => idv (g6 (x0 + k) 0)) 0), .i (lineAt x3 (min (min x1 9) 7) (fun k => idv (g6 (x0 + k) 0)) 1), .i (lineAt x3 (min (min x1 9) 7) (fun k => idv (g6 (x0 + k) 0)) 2), .i (lineAt x3 (min (min x1 9) 7) (fun k => idv (g6 (x0 + k) 0)) 3), .i (lineAt x3 (min (min x1 9) 7) (fun k => idv (g6 (x0 + k) 0)) 4), .i (lineAt x3 (min (min x1 9) 7) (fun k => idv (g6 (x0 + k) 0)) 5), .i (lineAt x3 (min (min x1 9) 7) (fun k => idv (g6 (x0 + k) 0)) 6), .i (lineAt x3 (min (min x1 9) 7) (fun k => idv (g6 (x0 + k) 0)) 7), .r (min (min x1 9) 7) (gcol (fun k => idv (g6 (x0 + k) 0)))])) .no
noncomputable def OL_IpcOrder_10 (l : List At) : Tr (Ex × List At) := O_IpcOrder_10 (aN l 0) (aN l 1) (aB l 2) (aI l 3) (aI l 4) (aI l 5) (aRn l 6) (aRg l 6) (aI l 7) (aI l 8) (aI l 9) (aI l 10) (aI l 11) (aI l 12) (aI l 13) (aI l 14) (aRn l 15) (aRg l 15)
def μ_IpcOrder_10 (l : List At) : Nat := ((aN l 1 : Int) - aI l 5).toNat

theorem appG_at {g src : Nat → Nat → Int} {n : Nat} (c : Nat) : appG g n src n c = src 0 c := by unfold appG; rw [if_neg (by omega), Nat.sub_self]
theorem appG_lt {g src : Nat → Nat → Int} {n k : Nat} (h : k < n) (c : Nat) : appG g n src k c = g k c := by unfold appG; rw [if_pos h]

theorem rd_IpcOrder_10 : ∀ l r, (OL_IpcOrder_10 l).val = some r → RoundS BL_IpcOrder_10 OL_IpcOrder_10 μ_IpcOrder_10 l r := by
  intro l r h
  obtain ⟨hc, h⟩ := guard_val h
  have hp := of_pdec hc
  have hr := val_ok h
  obtain ⟨c0, c1, c2, hm, hn, ⟨e0, e1, e2, e3, e4, e5, e6, e7⟩, hg⟩ := hp
  have hG : ∀ k, 0 ≤ (fun k => idv (aRg l 6 (aN l 0 + k) 0)) k ∧ (fun k => idv (aRg l 6 (aN l 0 + k) 0)) k < 49 := fun k => idv_ok _
  have hn7 : aRn l 15 ≤ 7 := by omega
  unfold RoundS BL_IpcOrder_10 B_IpcOrder_10
  have stop : ¬ (aI l 5 < aN l 1 ∧ aI l 5 < 9) → (Tr.ok (Ex.exit 0, [At.b (aB l 2), At.i (aI l 3), At.i (aI l 4), At.i (aI l 7), At.i (aI l 8), At.i (aI l 9), At.i (aI l 10), At.i (aI l 11), At.i (aI l 12), At.i (aI l 13), At.i (aI l 14), At.r (aRn l 15) (aRg l 15)])).sat fun p => (p.1 = .normal ∧ ∃ l2 r', AtsEq p.2 l2 ∧ μ_IpcOrder_10 l2 < μ_IpcOrder_10 l ∧ (OL_IpcOrder_10 l2).val = some r' ∧ r'.1 = r.1 ∧ AtsEq r'.2 r.2) ∨ (p.1 ≠ .normal ∧ r.1 = p.1 ∧ AtsEq p.2 r.2) := by
    intro hs
    subst hr
    have hN : min (min (aN l 1) 9) 7 = aRn l 15 := by omega
    refine out_ (by simp) rfl ?_
    rw [hN]
    exact atsEq_cons (AtEq.refl _) (atsEq_cons (AtEq.refl _) (atsEq_cons (AtEq.refl _) (atsEq_cons (atEq_i e0) (atsEq_cons (atEq_i e1) (atsEq_cons (atEq_i e2) (atsEq_cons (atEq_i e3) (atsEq_cons (atEq_i e4) (atsEq_cons (atEq_i e5) (atsEq_cons (atEq_i e6) (atsEq_cons (atEq_i e7) (atsEq_cons (atEq_r rfl hg) atsEq_nil)))))))))))
  refine brD (fun h1 => brD (fun h2 => brW (fun _ => ?_) (fun hh => by exfalso; omega)) (fun h2 => stop (by omega))) (fun h1 => stop (by omega))
  have hw : IntKind.i64.wrap (aI l 5 + 1) = aI l 5 + 1 := wrap_i64 (by omega) (by omega)
  have hR : Rng (aI l 7) (aI l 8) (aI l 9) (aI l 10) (aI l 11) (aI l 12) (aI l 13) (aI l 14) := by
    rw [e0, e1, e2, e3, e4, e5, e6, e7]
    exact at_rng hm hn7 fun k _ => hG k
  have hC : waitC (aI l 7) (aI l 8) (aI l 9) (aI l 10) (aI l 11) (aI l 12) (aI l 13) (aI l 14) (aI l 3) ((fun k => idv (aRg l 6 (aN l 0 + k) 0)) (aI l 5).toNat) = if aRn l 15 = 7 then 43 else 0 := by
    rw [e0, e1, e2, e3, e4, e5, e6, e7]
    exact at_wait hm hn7 (fun k _ => hG k) (hG _)
  have on : ∀ v, v = (fun k => idv (aRg l 6 (aN l 0 + k) 0)) (aI l 5).toNat → (Tr.br 0 (decide (Rng (aI l 7) (aI l 8) (aI l 9) (aI l 10) (aI l 11) (aI l 12) (aI l 13) (aI l 14)))
      (.br 59 (!(waitC (aI l 7) (aI l 8) (aI l 9) (aI l 10) (aI l 11) (aI l 12) (aI l 13) (aI l 14) (aI l 3) v == 0) == decide (aI l 5 < 7))
      (.ok (Ex.ret, [At.b false]))
      (.br 62 (waitC (aI l 7) (aI l 8) (aI l 9) (aI l 10) (aI l 11) (aI l 12) (aI l 13) (aI l 14) (aI l 3) v != 0)
      (.br 66 (waitC (aI l 7) (aI l 8) (aI l 9) (aI l 10) (aI l 11) (aI l 12) (aI l 13) (aI l 14) (aI l 3) v != 43)
      (.ok (Ex.ret, [At.b false]))
      (.br 68 (waitC (aI l 7) (aI l 8) (aI l 9) (aI l 10) (aI l 11) (aI l 12) (aI l 13) (aI l 14) (aI l 3) v == 0)
      (.br 73 (decide (aRn l 15 + 1 ≤ 1073741824))
      (.ok (Ex.normal, [At.n (aN l 0), At.n (aN l 1), At.b (aB l 2), At.i (aI l 3), At.i (aI l 4), At.i (IntKind.wrap IntKind.i64 (aI l 5 + 1)), At.r (aRn l 6) (aRg l 6), At.i (waitW (aI l 7) (aI l 8) (aI l 9) (aI l 10) (aI l 11) (aI l 12) (aI l 13) (aI l 14) (aI l 3) v 0), At.i (waitW (aI l 7) (aI l 8) (aI l 9) (aI l 10) (aI l 11) (aI l 12) (aI l 13) (aI l 14) (aI l 3) v 1), At.i (waitW (aI l 7) (aI l 8) (aI l 9) (aI l 10) (aI l 11) (aI l 12) (aI l 13) (aI l 14) (aI l 3) v 2), At.i (waitW (aI l 7) (aI l 8) (aI l 9) (aI l 10) (aI l 11) (aI l 12) (aI l 13) (aI l 14) (aI l 3) v 3), At.i (waitW (aI l 7) (aI l 8) (aI l 9) (aI l 10) (aI l 11) (aI l 12) (aI l 13) (aI l 14) (aI l 3) v 4), At.i (waitW (aI l 7) (aI l 8) (aI l 9) (aI l 10) (aI l 11) (aI l 12) (aI l 13) (aI l 14) (aI l 3) v 5), At.i (waitW (aI l 7) (aI l 8) (aI l 9) (aI l 10) (aI l 11) (aI l 12) (aI l 13) (aI l 14) (aI l 3) v 6), At.i (waitW (aI l 7) (aI l 8) (aI l 9) (aI l 10) (aI l 11) (aI l 12) (aI l 13) (aI l 14) (aI l 3) v 7), At.r (aRn l 15 + 1) (appG (aRg l 15) (aRn l 15) (rowsF [[v]]))]))
      .no)
      (.ok (Ex.normal, [At.n (aN l 0), At.n (aN l 1), At.b (aB l 2), At.i (aI l 3), At.i (aI l 4), At.i (IntKind.wrap IntKind.i64 (aI l 5 + 1)), At.r (aRn l 6) (aRg l 6), At.i (aI l 7), At.i (aI l 8), At.i (aI l 9), At.i (aI l 10), At.i (aI l 11), At.i (aI l 12), At.i (aI l 13), At.i (aI l 14), At.r (aRn l 15) (aRg l 15)]))))
      (.br 68 (waitC (aI l 7) (aI l 8) (aI l 9) (aI l 10) (aI l 11) (aI l 12) (aI l 13) (aI l 14) (aI l 3) v == 0)
      (.br 73 (decide (aRn l 15 + 1 ≤ 1073741824))
      (.ok (Ex.normal, [At.n (aN l 0), At.n (aN l 1), At.b (aB l 2), At.i (aI l 3), At.i (aI l 4), At.i (IntKind.wrap IntKind.i64 (aI l 5 + 1)), At.r (aRn l 6) (aRg l 6), At.i (waitW (aI l 7) (aI l 8) (aI l 9) (aI l 10) (aI l 11) (aI l 12) (aI l 13) (aI l 14) (aI l 3) v 0), At.i (waitW (aI l 7) (aI l 8) (aI l 9) (aI l 10) (aI l 11) (aI l 12) (aI l 13) (aI l 14) (aI l 3) v 1), At.i (waitW (aI l 7) (aI l 8) (aI l 9) (aI l 10) (aI l 11) (aI l 12) (aI l 13) (aI l 14) (aI l 3) v 2), At.i (waitW (aI l 7) (aI l 8) (aI l 9) (aI l 10) (aI l 11) (aI l 12) (aI l 13) (aI l 14) (aI l 3) v 3), At.i (waitW (aI l 7) (aI l 8) (aI l 9) (aI l 10) (aI l 11) (aI l 12) (aI l 13) (aI l 14) (aI l 3) v 4), At.i (waitW (aI l 7) (aI l 8) (aI l 9) (aI l 10) (aI l 11) (aI l 12) (aI l 13) (aI l 14) (aI l 3) v 5), At.i (waitW (aI l 7) (aI l 8) (aI l 9) (aI l 10) (aI l 11) (aI l 12) (aI l 13) (aI l 14) (aI l 3) v 6), At.i (waitW (aI l 7) (aI l 8) (aI l 9) (aI l 10) (aI l 11) (aI l 12) (aI l 13) (aI l 14) (aI l 3) v 7), At.r (aRn l 15 + 1) (appG (aRg l 15) (aRn l 15) (rowsF [[v]]))]))
      .no)
      (.ok (Ex.normal, [At.n (aN l 0), At.n (aN l 1), At.b (aB l 2), At.i (aI l 3), At.i (aI l 4), At.i (IntKind.wrap IntKind.i64 (aI l 5 + 1)), At.r (aRn l 6) (aRg l 6), At.i (aI l 7), At.i (aI l 8), At.i (aI l 9), At.i (aI l 10), At.i (aI l 11), At.i (aI l 12), At.i (aI l 13), At.i (aI l 14), At.r (aRn l 15) (aRg l 15)])))))
      .no).sat fun p => (p.1 = .normal ∧ ∃ l2 r', AtsEq p.2 l2 ∧ μ_IpcOrder_10 l2 < μ_IpcOrder_10 l ∧ (OL_IpcOrder_10 l2).val = some r' ∧ r'.1 = r.1 ∧ AtsEq r'.2 r.2) ∨ (p.1 ≠ .normal ∧ r.1 = p.1 ∧ AtsEq p.2 r.2) := by
    intro v hv
    rw [← hv] at hC
    rw [hC, hw]
    refine brT (decide_eq_true hR) ?_
    by_cases h7 : aRn l 15 = 7
    · rw [if_pos h7, decide_eq_false (show ¬ aI l 5 < 7 by omega)]
      refine brF rfl (brT rfl (brF rfl (brF rfl ?_)))
      refine on_ _ r (AtsEq.refl _) ?_ ?_ rfl (AtsEq.refl _)
      · show ((aN l 1 : Int) - (aI l 5 + 1)).toNat < ((aN l 1 : Int) - aI l 5).toNat
        omega
      · exact (br_t (g := 0) (pdec_yes ⟨by show 0 ≤ aI l 5 + 1; omega, by show aI l 5 + 1 ≤ aN l 1; omega, by show aI l 5 + 1 ≤ 9; omega, hm, by show aRn l 15 = min (aI l 5 + 1).toNat 7; omega, ⟨e0, e1, e2, e3, e4, e5, e6, e7⟩, hg⟩)).trans h
    · rw [if_neg h7, decide_eq_true (show aI l 5 < 7 by omega)]
      refine brF rfl (brF rfl (brT rfl (brT (decide_eq_true (by omega)) ?_)))
      have hx : 0 ≤ v ∧ v < 49 := by rw [hv]; exact hG _
      have hGc : (fun k => idv (aRg l 6 (aN l 0 + k) 0)) (aRn l 15) = v := by rw [hv, show aRn l 15 = (aI l 5).toNat by omega]
      have hW : ∀ j, waitW (aI l 7) (aI l 8) (aI l 9) (aI l 10) (aI l 11) (aI l 12) (aI l 13) (aI l 14) (aI l 3) v j = lineAt (aI l 3) (aRn l 15 + 1) (fun k => idv (aRg l 6 (aN l 0 + k) 0)) j := by
        intro j
        rw [e0, e1, e2, e3, e4, e5, e6, e7]
        exact at_waitW hm hn7 (fun k _ => hG k) hx h7 j (fun _ _ => rfl) hGc
      refine on_ _ r (AtsEq.refl _) ?_ ?_ rfl (AtsEq.refl _)
      · show ((aN l 1 : Int) - (aI l 5 + 1)).toNat < ((aN l 1 : Int) - aI l 5).toNat
        omega
      · refine (br_t (g := 0) (pdec_yes ⟨by show 0 ≤ aI l 5 + 1; omega, by show aI l 5 + 1 ≤ aN l 1; omega, by show aI l 5 + 1 ≤ 9; omega, hm, by show aRn l 15 + 1 = min (aI l 5 + 1).toNat 7; omega, ⟨hW 0, hW 1, hW 2, hW 3, hW 4, hW 5, hW 6, hW 7⟩, ?_⟩)).trans h
        intro k hk c
        show appG (aRg l 15) (aRn l 15) (rowsF [[v]]) k c = gcol (fun k => idv (aRg l 6 (aN l 0 + k) 0)) k c
        rcases Nat.lt_or_ge k (aRn l 15) with h3 | h3
        · rw [appG_lt h3]; exact hg k h3 c
        · have hk : k < aRn l 15 + 1 := hk
          obtain rfl : k = aRn l 15 := by omega
          rw [appG_at]
          cases c with
          | zero => exact hGc.symm
          | succ c => rfl
  refine brD (fun h3 => on _ ?_) (fun h3 => on _ ?_)
  · show _ = idv _
    unfold idv
    rw [if_pos h3]
  · show _ = idv _
    unfold idv
    rw [if_neg h3]
end Go.Proofs.Ytepdekambalmhaa.G
