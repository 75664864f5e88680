/-
  What functions of the seat compute, printed by a program from the explorer.
-/
import Derived.Test.YthpcjcdiaifoiaaL5ToO20r
import Derived.KernelRfl
section
namespace Go.Proofs.Ythpcjcdiaifoiaa.G
open Go Go.AM Go.Proofs
theorem f_RlogOrder_20 : LoopF Try.prog 1 (loopAt Try.f5 20) (loopFn 1 lsh_RlogOrder_20 xs_RlogOrder_20 OL_RlogOrder_20) :=
  loop_sat (sy := y_RlogOrder_20) (fuel := 100) (Lp := Lp_RlogOrder_8) o_S9 mixed (loopsOK_at lk_RlogOrder_8 20) rfl eB_RlogOrder_20 rd_RlogOrder_20
noncomputable def Lp_RlogOrder_20 : Loops := Loops.set Lp_RlogOrder_8 20 (loopFn 1 lsh_RlogOrder_20 xs_RlogOrder_20 OL_RlogOrder_20)
theorem lk_RlogOrder_20 : LoopsFn Try.prog 1 Lp_RlogOrder_20 Try.f5 := loopsFn_set lk_RlogOrder_8 (by kernel_rfl) f_RlogOrder_20

/-! ### RlogOrder -/

noncomputable def ish_RlogOrder : FSh := ⟨[.v false [.vw 0 1], .v false [.k (.n .i64)]], [.rows [.n .i64] false]⟩
noncomputable def osh_RlogOrder : FSh := ⟨[.v false [.k .b]], [.no]⟩
noncomputable def RlogOrder_c0 (x0 : Int) (n1 : Nat) (g1 : Nat → Nat → Int) : List (List Int) := Go.Proofs.Ythpcjcdiaifoiaa.G.scanL (Go.Proofs.Ythpcjcdiaifoiaa.G.orL (Go.IntKind.wrap Go.IntKind.i64 ((1 : Int) + Go.Proofs.Ythpcjcdiaifoiaa.G.r_kind_0 x0 (8 : Int))) (0 : Nat) g1 (Min.min n1 (8 : Nat) - (0 : Nat)) (0 : Nat) (Go.Proofs.Ythpcjcdiaifoiaa.G.newM (64 : Nat), (0 : Nat), fun (_ _ : Nat) => (0 : Int))).fst (Go.IntKind.wrap Go.IntKind.i64 ((1 : Int) + Go.Proofs.Ythpcjcdiaifoiaa.G.r_kind_0 x0 (8 : Int)))
noncomputable def RlogOrder_c1 (x0 : Int) (n1 : Nat) (g1 : Nat → Nat → Int) : Bool := Go.Proofs.Ythpcjcdiaifoiaa.G.pdec ((0 : Int) ≤ (0 : Int) ∧ Go.Proofs.Ythpcjcdiaifoiaa.G.OrRows (Go.Proofs.Ythpcjcdiaifoiaa.G.orL (Go.IntKind.wrap Go.IntKind.i64 ((1 : Int) + Go.Proofs.Ythpcjcdiaifoiaa.G.r_kind_0 x0 (8 : Int))) (0 : Nat) g1 (Min.min n1 (8 : Nat) - (0 : Nat)) (0 : Nat) (Go.Proofs.Ythpcjcdiaifoiaa.G.newM (64 : Nat), (0 : Nat), fun (_ _ : Nat) => (0 : Int))).snd.fst (Go.Proofs.Ythpcjcdiaifoiaa.G.orL (Go.IntKind.wrap Go.IntKind.i64 ((1 : Int) + Go.Proofs.Ythpcjcdiaifoiaa.G.r_kind_0 x0 (8 : Int))) (0 : Nat) g1 (Min.min n1 (8 : Nat) - (0 : Nat)) (0 : Nat) (Go.Proofs.Ythpcjcdiaifoiaa.G.newM (64 : Nat), (0 : Nat), fun (_ _ : Nat) => (0 : Int))).snd.snd (List.length (RlogOrder_c0 x0 n1 g1)) (Go.Proofs.Ythpcjcdiaifoiaa.G.lsF (RlogOrder_c0 x0 n1 g1)))
noncomputable def T_RlogOrder (x0 : Int) (n1 : Nat) (g1 : Nat → Nat → Int) : Tr (List At) :=
 .br 0 (Bool.false)
 (.ok [(.b (Bool.false))])
 (.br 0 (Go.Proofs.Ythpcjcdiaifoiaa.G.ok_kind x0 (8 : Int))
 (.br 0 (Go.Proofs.Ythpcjcdiaifoiaa.G.pdec ((0 : Int) ≤ (0 : Int) ∧ (0 : Int) ≤ (8 : Int) ∧ Go.Proofs.Ythpcjcdiaifoiaa.G.OrInv (Go.IntKind.wrap Go.IntKind.i64 ((1 : Int) + Go.Proofs.Ythpcjcdiaifoiaa.G.r_kind_0 x0 (8 : Int))) (0 : Nat) (Go.Proofs.Ythpcjcdiaifoiaa.G.newM (64 : Nat), (0 : Nat), fun (_ _ : Nat) => (0 : Int)) ∧ Go.Proofs.Ythpcjcdiaifoiaa.G.OpsIn (0 : Nat) n1 g1))
 (.br 0 (Go.Proofs.Ythpcjcdiaifoiaa.G.pdec (List.length (Go.Proofs.Ythpcjcdiaifoiaa.G.scR (Go.Proofs.Ythpcjcdiaifoiaa.G.orL (Go.IntKind.wrap Go.IntKind.i64 ((1 : Int) + Go.Proofs.Ythpcjcdiaifoiaa.G.r_kind_0 x0 (8 : Int))) (0 : Nat) g1 (Min.min n1 (8 : Nat) - (0 : Nat)) (0 : Nat) (Go.Proofs.Ythpcjcdiaifoiaa.G.newM (64 : Nat), (0 : Nat), fun (_ _ : Nat) => (0 : Int))).fst (Int.toNat ((4 : Int) * Go.IntKind.wrap Go.IntKind.i64 ((1 : Int) + Go.Proofs.Ythpcjcdiaifoiaa.G.r_kind_0 x0 (8 : Int)))) (2 : Int)) < (20 : Nat)))
 (.br 78 (Go.Proofs.Ythpcjcdiaifoiaa.G.scanC (Go.Proofs.Ythpcjcdiaifoiaa.G.orL (Go.IntKind.wrap Go.IntKind.i64 ((1 : Int) + Go.Proofs.Ythpcjcdiaifoiaa.G.r_kind_0 x0 (8 : Int))) (0 : Nat) g1 (Min.min n1 (8 : Nat) - (0 : Nat)) (0 : Nat) (Go.Proofs.Ythpcjcdiaifoiaa.G.newM (64 : Nat), (0 : Nat), fun (_ _ : Nat) => (0 : Int))).fst (Go.IntKind.wrap Go.IntKind.i64 ((1 : Int) + Go.Proofs.Ythpcjcdiaifoiaa.G.r_kind_0 x0 (8 : Int))) != (0 : Int))
 (.ok [(.b (Bool.false))])
 (.br 84 ((↑(List.length (RlogOrder_c0 x0 n1 g1)) : Int) != (↑(Go.Proofs.Ythpcjcdiaifoiaa.G.orL (Go.IntKind.wrap Go.IntKind.i64 ((1 : Int) + Go.Proofs.Ythpcjcdiaifoiaa.G.r_kind_0 x0 (8 : Int))) (0 : Nat) g1 (Min.min n1 (8 : Nat) - (0 : Nat)) (0 : Nat) (Go.Proofs.Ythpcjcdiaifoiaa.G.newM (64 : Nat), (0 : Nat), fun (_ _ : Nat) => (0 : Int))).snd.fst : Int))
 (.ok [(.b (Bool.false))])
 (.br 0 ((RlogOrder_c1 x0 n1 g1))
 (.ok [(.b (Bool.true))])
 (.no))))
 (.no))
 (.no))
 (.no))
noncomputable def y_RlogOrder : Nat → Option Nat := (syOf3 [78, 84] [] [])
noncomputable def TL_RlogOrder (l : List At) : Tr (List At) := T_RlogOrder (aI l 0) (aRn l 1) (aRg l 1)
theorem e_RlogOrder (l : List At) : (call Try.prog Γ_S9 y_RlogOrder Lp_RlogOrder_20 100 Try.f5 (mkV ish_RlogOrder l) (mkH ish_RlogOrder l)).bind (leafO ish_RlogOrder.hp.length ⟨[.v false [.k .b]], List.replicate ish_RlogOrder.hp.length .no⟩) = TL_RlogOrder l := by kernel_rfl

end Go.Proofs.Ythpcjcdiaifoiaa.G
end

/-
  The plain law of RlogOrder.
-/
section
namespace Go.Proofs.Ythpcjcdiaifoiaa.G
open Go Go.AM Go.Proofs

theorem vc_RlogOrder (x0 : Int) (n1 : Nat) (g1 : Nat → Nat → Int) (a0 : IntKind.min .i64 ≤ x0) (b0 : x0 ≤ IntKind.max .i64) (_b : n1 ≤ maxLen) (w : ∀ (i c : Nat) (k : SK), i < n1 → [SK.n .i64][c]? = some k → wfS k (g1 i c)) :
    (T_RlogOrder x0 n1 g1).sat fun r => r = [.b true] := by
  have hin : OpsIn 0 n1 g1 := fun j hj => by
    have := w (0 + j) 0 (.n .i64) (by omega) rfl
    exact this
  have hk := kind_lo (x := x0) (n := 8) a0 b0 (by decide)
  obtain ⟨c, ec⟩ : ∃ c : Nat, r_kind_0 x0 8 = (c : Int) := ⟨(r_kind_0 x0 8).toNat, by omega⟩
  unfold T_RlogOrder RlogOrder_c1 RlogOrder_c0
  rw [ec] at hk ⊢
  have hw : IntKind.i64.wrap (1 + (c : Int)) = ((c + 1 : Nat) : Int) := by rw [wrap_i64 (by omega) (by omega)]; omega
  rw [hw]
  have i0 : OrInv ((c + 1 : Nat) : Int) 0 (newM 64, 0, fun _ _ => 0) := ⟨by omega, newM_on 64, _, log_new, or_new _ _⟩
  obtain ⟨_, hon, S, hlog, hor⟩ := or_all (N := n1) hin (min n1 8 - 0) 0 _ (by omega) (by omega) i0
  generalize orL ((c + 1 : Nat) : Int) 0 g1 (min n1 8 - 0) 0 (newM 64, 0, fun _ _ => 0) = q at *
  obtain ⟨M, n, g⟩ := q
  have hon : M.on := hon
  have hlog : LogInv S _ M := hlog
  have hor : OrS (c + 1) (0 + (min n1 8 - 0)) S n g := hor
  have hlen := hor.len
  obtain ⟨s1, s2, s3⟩ := scan_at hlog hon.1 (k := c + 1) (by omega) (by omega)
  rw [or_scan hor] at s2
  have s3l : (scR M (4 * ((c + 1 : Nat) : Int)).toNat 2).length = n := by
    rw [s3, ← isort_len, or_scan hor, List.length_map, List.length_range]
  dsimp only
  rw [s1, s2, List.length_map, List.length_range]
  have hrows : OrRows n g n (lsF ((List.range n).map (fun t => [g t 0, 0, 0, 0]))) := by
    refine ⟨Nat.le_refl _, by omega, fun j hj => ?_⟩
    have e : ((List.range n).map (fun t => [g t 0, 0, 0, 0])).getD j [] = [g j 0, 0, 0, 0] := by
      rw [List.getD_eq_getElem?_getD, List.getElem?_map, List.getElem?_range hj]
      rfl
    unfold lsF
    rw [e]
    rfl
  exact brF rfl (brT (kind_ok (by decide)) (brT (pdec_yes ⟨Int.le_refl _, by decide, i0, hin⟩) (brT (pdec_yes (by rw [s3l]; omega)) (brF rfl (brF (by simp) (brT (pdec_yes ⟨Int.le_refl _, hrows⟩) (Tr.sat_ok.2 rfl)))))))
end Go.Proofs.Ythpcjcdiaifoiaa.G
end
