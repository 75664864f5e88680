/-
  What functions of the seat compute, printed by a program from the explorer.
-/
import Derived.Test.YthgagehgiooklaaG8ToO26f
import Derived.KernelRfl
section
namespace Go.Proofs.Ythgagehgiooklaa.G
open Go Go.AM Go.Proofs
theorem f_NvmFenced_26 : LoopF Try.prog 2 (loopAt Try.f3 26) (loopFn 2 lsh_NvmFenced_26 xs_NvmFenced_26 OL_NvmFenced_26) :=
  loop_sat (sy := y_NvmFenced_26) (fuel := 100) (Lp := Lp_NvmFenced_8) o_S13 mixed (loopsOK_at lk_NvmFenced_8 26) rfl eB_NvmFenced_26 rd_NvmFenced_26
noncomputable def Lp_NvmFenced_26 : Loops := Loops.set Lp_NvmFenced_8 26 (loopFn 2 lsh_NvmFenced_26 xs_NvmFenced_26 OL_NvmFenced_26)
theorem lk_NvmFenced_26 : LoopsFn Try.prog 2 Lp_NvmFenced_26 Try.f3 := loopsFn_set lk_NvmFenced_8 (by kernel_rfl) f_NvmFenced_26

/-! ### the loop at 22 of NvmFenced -/

noncomputable def lsh_NvmFenced_22 : FSh := ⟨[.v false [.sq 0 1], .any, .any, .any, .any, .any, .any, .any, .any, .any, .v false [.k (.n .i64)], .any, .any, .v false [.p 2 0], .any, .v false [.k (.n .i64)], .any, .any, .any, .any, .any, .any, .any, .any, .any, .any, .any, .any, .any, .any, .any, .any, .any, .any, .any, .any, .any, .any, .any, .any, .any, .any, .any, .any, .any, .any, .any, .any, .any, .any, .any, .any, .any, .any, .any, .any, .any, .any, .any, .any, .any, .any, .any, .any, .any, .any, .any, .any, .any, .any, .any, .any, .any, .any, .any, .any, .any, .any, .any, .any, .any, .any, .any, .any, .any, .any, .any, .any, .any, .any, .any, .any, .any], [.rows [.n .u64] false, .no, .cells [.k (.n .u64), .k (.n .u64), .k (.n .u64), .k (.n .u64), .k (.n .u64), .k (.n .u64), .k (.n .u64), .k (.n .u64)]]⟩
noncomputable def xsh_NvmFenced_22_0 : FSh := ⟨[.any, .any, .any, .any, .any, .any, .any, .any, .any, .any, .any, .any, .any, .any, .any, .any, .any, .any, .any, .any, .any, .any, .any, .any, .any, .any, .any, .any, .any, .any, .any, .any, .any, .any, .any, .any, .any, .any, .any, .any, .any, .any, .any, .any, .any, .any, .any, .any, .any, .any, .any, .any, .any, .any, .any, .any, .any, .any, .any, .any, .any, .any, .any, .any, .any, .any, .any, .any, .any, .any, .any, .any, .any, .any, .any, .any, .any, .any, .any, .any, .any, .any, .any, .any, .any, .any, .any, .any, .any, .any, .any, .any, .any], [.no, .no]⟩
noncomputable def xsh_NvmFenced_22_1 : FSh := ⟨[.any, .any, .any, .any, .any, .any, .v false [.k .b], .any, .any, .any, .any, .any, .any, .any, .any, .any, .any, .any, .any, .any, .any, .any, .any, .any, .any, .any, .any, .any, .any, .any, .any, .any, .any, .any, .any, .any, .any, .any, .any, .any, .any, .any, .any, .any, .any, .any, .any, .any, .any, .any, .any, .any, .any, .any, .any, .any, .any, .any, .any, .any, .any, .any, .any, .any, .any, .any, .any, .any, .any, .any, .any, .any, .any, .any, .any, .any, .any, .any, .any, .any, .any, .any, .any, .any, .any, .any, .any, .any, .any, .any, .any, .any, .any], [.no, .no]⟩
noncomputable def xs_NvmFenced_22 : Exs := fun e => match e with
  | .normal => some lsh_NvmFenced_22
  | .exit n => (match Nat.beq n 2 with | true => some xsh_NvmFenced_22_0 | false => none)
  | .ret => some xsh_NvmFenced_22_1
noncomputable def NvmFenced_22_c0 (x0 : Nat) (x3 : Int) (g4 : Nat → Nat → Int) (x9 : Int) (x10 : Int) (x11 : Int) (x12 : Int) : Bool := x9 == Go.Proofs.Ythgagehgiooklaa.G.seW (fun (i : Nat) => g4 (x0 + i) (0 : Nat)) (Int.toNat (x3 - (0 : Int))) (0 : Nat) (Go.Proofs.Ythgagehgiooklaa.G.w8 (0 : Int) (0 : Int) (0 : Int) (0 : Int) (0 : Int) (0 : Int) (0 : Int) (0 : Int)) (4 : Nat) && (x10 == Go.Proofs.Ythgagehgiooklaa.G.seW (fun (i : Nat) => g4 (x0 + i) (0 : Nat)) (Int.toNat (x3 - (0 : Int))) (0 : Nat) (Go.Proofs.Ythgagehgiooklaa.G.w8 (0 : Int) (0 : Int) (0 : Int) (0 : Int) (0 : Int) (0 : Int) (0 : Int) (0 : Int)) (5 : Nat) && (x11 == Go.Proofs.Ythgagehgiooklaa.G.seW (fun (i : Nat) => g4 (x0 + i) (0 : Nat)) (Int.toNat (x3 - (0 : Int))) (0 : Nat) (Go.Proofs.Ythgagehgiooklaa.G.w8 (0 : Int) (0 : Int) (0 : Int) (0 : Int) (0 : Int) (0 : Int) (0 : Int) (0 : Int)) (6 : Nat) && (x12 == Go.Proofs.Ythgagehgiooklaa.G.seW (fun (i : Nat) => g4 (x0 + i) (0 : Nat)) (Int.toNat (x3 - (0 : Int))) (0 : Nat) (Go.Proofs.Ythgagehgiooklaa.G.w8 (0 : Int) (0 : Int) (0 : Int) (0 : Int) (0 : Int) (0 : Int) (0 : Int) (0 : Int)) (7 : Nat) && Bool.true)))
noncomputable def NvmFenced_22_c1 (x0 : Nat) (x3 : Int) (g4 : Nat → Nat → Int) (x8 : Int) (x9 : Int) (x10 : Int) (x11 : Int) (x12 : Int) : Bool := x8 == Go.Proofs.Ythgagehgiooklaa.G.seW (fun (i : Nat) => g4 (x0 + i) (0 : Nat)) (Int.toNat (x3 - (0 : Int))) (0 : Nat) (Go.Proofs.Ythgagehgiooklaa.G.w8 (0 : Int) (0 : Int) (0 : Int) (0 : Int) (0 : Int) (0 : Int) (0 : Int) (0 : Int)) (3 : Nat) && (NvmFenced_22_c0 x0 x3 g4 x9 x10 x11 x12)
noncomputable def NvmFenced_22_c2 (x0 : Nat) (x3 : Int) (g4 : Nat → Nat → Int) (x7 : Int) (x8 : Int) (x9 : Int) (x10 : Int) (x11 : Int) (x12 : Int) : Bool := x7 == Go.Proofs.Ythgagehgiooklaa.G.seW (fun (i : Nat) => g4 (x0 + i) (0 : Nat)) (Int.toNat (x3 - (0 : Int))) (0 : Nat) (Go.Proofs.Ythgagehgiooklaa.G.w8 (0 : Int) (0 : Int) (0 : Int) (0 : Int) (0 : Int) (0 : Int) (0 : Int) (0 : Int)) (2 : Nat) && (NvmFenced_22_c1 x0 x3 g4 x8 x9 x10 x11 x12)
noncomputable def NvmFenced_22_c3 (x0 : Nat) (x3 : Int) (g4 : Nat → Nat → Int) (x6 : Int) (x7 : Int) (x8 : Int) (x9 : Int) (x10 : Int) (x11 : Int) (x12 : Int) : Bool := x6 == Go.Proofs.Ythgagehgiooklaa.G.seW (fun (i : Nat) => g4 (x0 + i) (0 : Nat)) (Int.toNat (x3 - (0 : Int))) (0 : Nat) (Go.Proofs.Ythgagehgiooklaa.G.w8 (0 : Int) (0 : Int) (0 : Int) (0 : Int) (0 : Int) (0 : Int) (0 : Int) (0 : Int)) (1 : Nat) && (NvmFenced_22_c2 x0 x3 g4 x7 x8 x9 x10 x11 x12)
noncomputable def NvmFenced_22_c4 (x0 : Nat) (x3 : Int) (g4 : Nat → Nat → Int) (x5 : Int) (x6 : Int) (x7 : Int) (x8 : Int) (x9 : Int) (x10 : Int) (x11 : Int) (x12 : Int) : Bool := x5 == Go.Proofs.Ythgagehgiooklaa.G.seW (fun (i : Nat) => g4 (x0 + i) (0 : Nat)) (Int.toNat (x3 - (0 : Int))) (0 : Nat) (Go.Proofs.Ythgagehgiooklaa.G.w8 (0 : Int) (0 : Int) (0 : Int) (0 : Int) (0 : Int) (0 : Int) (0 : Int) (0 : Int)) (0 : Nat) && (NvmFenced_22_c3 x0 x3 g4 x6 x7 x8 x9 x10 x11 x12)
noncomputable def B_NvmFenced_22 (x0 : Nat) (x1 : Nat) (x2 : Int) (x3 : Int) (n4 : Nat) (g4 : Nat → Nat → Int) (x5 : Int) (x6 : Int) (x7 : Int) (x8 : Int) (x9 : Int) (x10 : Int) (x11 : Int) (x12 : Int) : Tr (Ex × List At) :=
 .br 75 (Decidable.decide (x3 ≤ x2))
 (.br 0 (Go.Proofs.Ythgagehgiooklaa.G.pdec ((0 : Int) ≤ (0 : Int) ∧ (0 : Int) ≤ x3 ∧ x3 ≤ (8 : Int) ∧ x3 ≤ (↑x1 : Int)))
 (.br 92 ((NvmFenced_22_c4 x0 x3 g4 x5 x6 x7 x8 x9 x10 x11 x12))
 (.ok (.ret, [(.b (Bool.true))]))
 (.ok (.normal, [(.n (x0)), (.n (x1)), (.i (x2)), (.i (Go.IntKind.wrap Go.IntKind.i64 (x3 + (1 : Int)))), (.r (n4) (g4)), (.i (x5)), (.i (x6)), (.i (x7)), (.i (x8)), (.i (x9)), (.i (x10)), (.i (x11)), (.i (x12))])))
 (.no))
 (.ok (.exit 2, []))
noncomputable def y_NvmFenced_22 : Nat → Option Nat := (syOf3 [75, 92] [] [])
noncomputable def BL_NvmFenced_22 (l : List At) : Tr (Ex × List At) := B_NvmFenced_22 (aN l 0) (aN l 1) (aI l 2) (aI l 3) (aRn l 4) (aRg l 4) (aI l 5) (aI l 6) (aI l 7) (aI l 8) (aI l 9) (aI l 10) (aI l 11) (aI l 12)
theorem eB_NvmFenced_22 (l : List At) : (exec Try.prog Γ_S13 y_NvmFenced_22 Lp_NvmFenced_26 100 (loopAt Try.f3 22) ⟨mkV lsh_NvmFenced_22 l, mkH lsh_NvmFenced_22 l⟩).bind (leafL 2 xs_NvmFenced_22) = BL_NvmFenced_22 l := by kernel_rfl
/- by hand: O_NvmFenced_22 (x0 : Nat) (x1 : Nat) (x2 : Int) (x3 : Int) (n4 : Nat) (g4 : Nat → Nat → Int) (x5 : Int) (x6 : Int) (x7 : Int) (x8 : Int) (x9 : Int) (x10 : Int) (x11 : Int) (x12 : Int) : Tr (Ex × List At); OL_NvmFenced_22 (l) := O_NvmFenced_22 (aN l 0) (aN l 1) (aI l 2) (aI l 3) (aRn l 4) (aRg l 4) (aI l 5) (aI l 6) (aI l 7) (aI l 8) (aI l 9) (aI l 10) (aI l 11) (aI l 12); μ_NvmFenced_22 : List At → Nat; rd_NvmFenced_22 : ∀ l r, (OL_NvmFenced_22 l).val = some r → RoundA BL_NvmFenced_22 OL_NvmFenced_22 μ_NvmFenced_22 l r -/

end Go.Proofs.Ythgagehgiooklaa.G
end

/-
  The outer loop of NvmFenced: some first values are those that are there.
-/
section
namespace Go.Proofs.Ythgagehgiooklaa.G
open Go Go.AM Go.Proofs

def preSome (x1 : Nat) (x2 x3 : Int) (u L : Nat → Int) : Prop := 0 ≤ x3 ∧ x2 ≤ 8 ∧ x2 ≤ x1 ∧ ∃ many : Nat, x3 ≤ many ∧ (many : Int) ≤ x2 ∧ ∀ c, c < 8 → L c = seW u many 0 (w8 0 0 0 0 0 0 0 0) c

noncomputable def O_NvmFenced_22 (x0 x1 : Nat) (x2 x3 : Int) (g4 : Nat → Nat → Int) (L : Nat → Int) : Tr (Ex × List At) :=
  .br 0 (pdec (preSome x1 x2 x3 (fun i => g4 (x0 + i) 0) L)) (.ok (.ret, [.b true])) .no
noncomputable def OL_NvmFenced_22 (l : List At) : Tr (Ex × List At) := O_NvmFenced_22 (aN l 0) (aN l 1) (aI l 2) (aI l 3) (aRg l 4) (w8 (aI l 5) (aI l 6) (aI l 7) (aI l 8) (aI l 9) (aI l 10) (aI l 11) (aI l 12))
def μ_NvmFenced_22 (l : List At) : Nat := (aI l 2 + 1 - aI l 3).toNat

theorem rd_NvmFenced_22 : ∀ l r, (OL_NvmFenced_22 l).val = some r → RoundS BL_NvmFenced_22 OL_NvmFenced_22 μ_NvmFenced_22 l r := by
  intro l r hh
  unfold OL_NvmFenced_22 at hh
  obtain ⟨hc, h⟩ := guard_val hh
  clear hh
  obtain ⟨c0, c1, c2, many, c3, c4, c5⟩ := of_pdec hc
  have hr := val_ok h
  unfold RoundS BL_NvmFenced_22 B_NvmFenced_22
  generalize hx0 : aN l 0 = x0 at *
  generalize hx1 : aN l 1 = x1 at *
  generalize hx2 : aI l 2 = x2 at *
  generalize hx3 : aI l 3 = x3 at *
  generalize hg4 : aRg l 4 = g4 at *
  refine brD (fun h1 => brT (pdec_yes ⟨Int.le_refl _, c0, by omega, by omega⟩) ?_) (fun h1 => by exfalso; omega)
  have hw : IntKind.i64.wrap (x3 + 1) = x3 + 1 := wrap_i64 (by omega) (by omega)
  have hμ : (x2 + 1 - (x3 + 1)).toNat < μ_NvmFenced_22 l := by unfold μ_NvmFenced_22; rw [hx2, hx3]; omega
  rw [hw]
  refine brC (fun ht => ?_) (fun hf => ?_)
  · subst hr
    exact out_ (by simp) rfl (AtsEq.refl _)
  · have hne : x3 ≠ many := by
      intro he
      subst he
      have e : ((many : Int) - 0).toNat = many := by omega
      have k : NvmFenced_22_c4 x0 (many : Int) g4 (aI l 5) (aI l 6) (aI l 7) (aI l 8) (aI l 9) (aI l 10) (aI l 11) (aI l 12) = true := by
        unfold NvmFenced_22_c4 NvmFenced_22_c3 NvmFenced_22_c2 NvmFenced_22_c1 NvmFenced_22_c0
        rw [e, ← c5 0 (by omega), ← c5 1 (by omega), ← c5 2 (by omega), ← c5 3 (by omega), ← c5 4 (by omega), ← c5 5 (by omega), ← c5 6 (by omega), ← c5 7 (by omega)]
        simp [w8]
      rw [k] at hf
      cases hf
    have hq : preSome x1 x2 (x3 + 1) (fun i => g4 (x0 + i) 0) (w8 (aI l 5) (aI l 6) (aI l 7) (aI l 8) (aI l 9) (aI l 10) (aI l 11) (aI l 12)) := ⟨by omega, c1, c2, many, by omega, c4, c5⟩
    exact on_ _ r (AtsEq.refl _) hμ ((br_t (g := 0) (pdec_yes hq)).trans h) rfl (AtsEq.refl _)
end Go.Proofs.Ythgagehgiooklaa.G
end

/-
  What functions of the seat compute, printed by a program from the explorer.
-/
section
namespace Go.Proofs.Ythgagehgiooklaa.G
open Go Go.AM Go.Proofs
theorem f_NvmFenced_22 : LoopF Try.prog 2 (loopAt Try.f3 22) (loopFn 2 lsh_NvmFenced_22 xs_NvmFenced_22 OL_NvmFenced_22) :=
  loop_sat (sy := y_NvmFenced_22) (fuel := 100) (Lp := Lp_NvmFenced_26) o_S13 mixed (loopsOK_at lk_NvmFenced_26 22) rfl eB_NvmFenced_22 rd_NvmFenced_22
noncomputable def Lp_NvmFenced_22 : Loops := Loops.set Lp_NvmFenced_26 22 (loopFn 2 lsh_NvmFenced_22 xs_NvmFenced_22 OL_NvmFenced_22)
theorem lk_NvmFenced_22 : LoopsFn Try.prog 2 Lp_NvmFenced_22 Try.f3 := loopsFn_set lk_NvmFenced_26 (by kernel_rfl) f_NvmFenced_22

/-! ### NvmFenced -/

noncomputable def ish_NvmFenced : FSh := ⟨[.v false [.vw 0 1], .v false [.k (.n .i64)], .v false [.vw 1 1]], [.rows [.n .u64] false, .rows [.n .i64] false]⟩
noncomputable def osh_NvmFenced : FSh := ⟨[.v false [.k .b]], [.no, .no]⟩
noncomputable def NvmFenced_c0 (x0 : Int) (n1 : Nat) (g1 : Nat → Nat → Int) (n2 : Nat) (g2 : Nat → Nat → Int) : Bool := Go.Proofs.Ythgagehgiooklaa.G.pdec (Go.Proofs.Ythgagehgiooklaa.G.preSome n1 (if (8 : Int) < (↑n1 : Int) then (8 : Int) else (↑n1 : Int)) (Go.Proofs.Ythgagehgiooklaa.G.r_kind_0 x0 (Go.IntKind.wrap Go.IntKind.i64 ((if (8 : Int) < (↑n1 : Int) then (8 : Int) else (↑n1 : Int)) + (1 : Int)))) (fun (i : Nat) => g1 ((0 : Nat) + i) (0 : Nat)) (Go.Proofs.Ythgagehgiooklaa.G.w8 (Go.Proofs.Ythgagehgiooklaa.G.Mem.ldW (Go.Proofs.Ythgagehgiooklaa.G.Mem.crM (Go.Proofs.Ythgagehgiooklaa.G.Mem.feM (Go.Proofs.Ythgagehgiooklaa.G.Mem.flM (Go.Proofs.Ythgagehgiooklaa.G.feMM (fun (i : Nat) => g1 ((0 : Nat) + i) (0 : Nat)) (Go.Proofs.Ythgagehgiooklaa.G.r_kind_0 x0 (Go.IntKind.wrap Go.IntKind.i64 ((if (8 : Int) < (↑n1 : Int) then (8 : Int) else (↑n1 : Int)) + (1 : Int)))) (Int.toNat ((if (8 : Int) < (↑n1 : Int) then (8 : Int) else (↑n1 : Int)) - (0 : Int))) (0 : Nat) (Go.Proofs.Ythgagehgiooklaa.G.newM (64 : Nat))) (2 : Int) (9 : Int)) (2 : Int)) (fun (j : Nat) => g2 ((0 : Nat) + j) (0 : Nat)) n2) (9 : Int) (0 : Nat)) (Go.Proofs.Ythgagehgiooklaa.G.Mem.ldW (Go.Proofs.Ythgagehgiooklaa.G.Mem.crM (Go.Proofs.Ythgagehgiooklaa.G.Mem.feM (Go.Proofs.Ythgagehgiooklaa.G.Mem.flM (Go.Proofs.Ythgagehgiooklaa.G.feMM (fun (i : Nat) => g1 ((0 : Nat) + i) (0 : Nat)) (Go.Proofs.Ythgagehgiooklaa.G.r_kind_0 x0 (Go.IntKind.wrap Go.IntKind.i64 ((if (8 : Int) < (↑n1 : Int) then (8 : Int) else (↑n1 : Int)) + (1 : Int)))) (Int.toNat ((if (8 : Int) < (↑n1 : Int) then (8 : Int) else (↑n1 : Int)) - (0 : Int))) (0 : Nat) (Go.Proofs.Ythgagehgiooklaa.G.newM (64 : Nat))) (2 : Int) (9 : Int)) (2 : Int)) (fun (j : Nat) => g2 ((0 : Nat) + j) (0 : Nat)) n2) (9 : Int) (1 : Nat)) (Go.Proofs.Ythgagehgiooklaa.G.Mem.ldW (Go.Proofs.Ythgagehgiooklaa.G.Mem.crM (Go.Proofs.Ythgagehgiooklaa.G.Mem.feM (Go.Proofs.Ythgagehgiooklaa.G.Mem.flM (Go.Proofs.Ythgagehgiooklaa.G.feMM (fun (i : Nat) => g1 ((0 : Nat) + i) (0 : Nat)) (Go.Proofs.Ythgagehgiooklaa.G.r_kind_0 x0 (Go.IntKind.wrap Go.IntKind.i64 ((if (8 : Int) < (↑n1 : Int) then (8 : Int) else (↑n1 : Int)) + (1 : Int)))) (Int.toNat ((if (8 : Int) < (↑n1 : Int) then (8 : Int) else (↑n1 : Int)) - (0 : Int))) (0 : Nat) (Go.Proofs.Ythgagehgiooklaa.G.newM (64 : Nat))) (2 : Int) (9 : Int)) (2 : Int)) (fun (j : Nat) => g2 ((0 : Nat) + j) (0 : Nat)) n2) (9 : Int) (2 : Nat)) (Go.Proofs.Ythgagehgiooklaa.G.Mem.ldW (Go.Proofs.Ythgagehgiooklaa.G.Mem.crM (Go.Proofs.Ythgagehgiooklaa.G.Mem.feM (Go.Proofs.Ythgagehgiooklaa.G.Mem.flM (Go.Proofs.Ythgagehgiooklaa.G.feMM (fun (i : Nat) => g1 ((0 : Nat) + i) (0 : Nat)) (Go.Proofs.Ythgagehgiooklaa.G.r_kind_0 x0 (Go.IntKind.wrap Go.IntKind.i64 ((if (8 : Int) < (↑n1 : Int) then (8 : Int) else (↑n1 : Int)) + (1 : Int)))) (Int.toNat ((if (8 : Int) < (↑n1 : Int) then (8 : Int) else (↑n1 : Int)) - (0 : Int))) (0 : Nat) (Go.Proofs.Ythgagehgiooklaa.G.newM (64 : Nat))) (2 : Int) (9 : Int)) (2 : Int)) (fun (j : Nat) => g2 ((0 : Nat) + j) (0 : Nat)) n2) (9 : Int) (3 : Nat)) (Go.Proofs.Ythgagehgiooklaa.G.Mem.ldW (Go.Proofs.Ythgagehgiooklaa.G.Mem.crM (Go.Proofs.Ythgagehgiooklaa.G.Mem.feM (Go.Proofs.Ythgagehgiooklaa.G.Mem.flM (Go.Proofs.Ythgagehgiooklaa.G.feMM (fun (i : Nat) => g1 ((0 : Nat) + i) (0 : Nat)) (Go.Proofs.Ythgagehgiooklaa.G.r_kind_0 x0 (Go.IntKind.wrap Go.IntKind.i64 ((if (8 : Int) < (↑n1 : Int) then (8 : Int) else (↑n1 : Int)) + (1 : Int)))) (Int.toNat ((if (8 : Int) < (↑n1 : Int) then (8 : Int) else (↑n1 : Int)) - (0 : Int))) (0 : Nat) (Go.Proofs.Ythgagehgiooklaa.G.newM (64 : Nat))) (2 : Int) (9 : Int)) (2 : Int)) (fun (j : Nat) => g2 ((0 : Nat) + j) (0 : Nat)) n2) (9 : Int) (4 : Nat)) (Go.Proofs.Ythgagehgiooklaa.G.Mem.ldW (Go.Proofs.Ythgagehgiooklaa.G.Mem.crM (Go.Proofs.Ythgagehgiooklaa.G.Mem.feM (Go.Proofs.Ythgagehgiooklaa.G.Mem.flM (Go.Proofs.Ythgagehgiooklaa.G.feMM (fun (i : Nat) => g1 ((0 : Nat) + i) (0 : Nat)) (Go.Proofs.Ythgagehgiooklaa.G.r_kind_0 x0 (Go.IntKind.wrap Go.IntKind.i64 ((if (8 : Int) < (↑n1 : Int) then (8 : Int) else (↑n1 : Int)) + (1 : Int)))) (Int.toNat ((if (8 : Int) < (↑n1 : Int) then (8 : Int) else (↑n1 : Int)) - (0 : Int))) (0 : Nat) (Go.Proofs.Ythgagehgiooklaa.G.newM (64 : Nat))) (2 : Int) (9 : Int)) (2 : Int)) (fun (j : Nat) => g2 ((0 : Nat) + j) (0 : Nat)) n2) (9 : Int) (5 : Nat)) (Go.Proofs.Ythgagehgiooklaa.G.Mem.ldW (Go.Proofs.Ythgagehgiooklaa.G.Mem.crM (Go.Proofs.Ythgagehgiooklaa.G.Mem.feM (Go.Proofs.Ythgagehgiooklaa.G.Mem.flM (Go.Proofs.Ythgagehgiooklaa.G.feMM (fun (i : Nat) => g1 ((0 : Nat) + i) (0 : Nat)) (Go.Proofs.Ythgagehgiooklaa.G.r_kind_0 x0 (Go.IntKind.wrap Go.IntKind.i64 ((if (8 : Int) < (↑n1 : Int) then (8 : Int) else (↑n1 : Int)) + (1 : Int)))) (Int.toNat ((if (8 : Int) < (↑n1 : Int) then (8 : Int) else (↑n1 : Int)) - (0 : Int))) (0 : Nat) (Go.Proofs.Ythgagehgiooklaa.G.newM (64 : Nat))) (2 : Int) (9 : Int)) (2 : Int)) (fun (j : Nat) => g2 ((0 : Nat) + j) (0 : Nat)) n2) (9 : Int) (6 : Nat)) (Go.Proofs.Ythgagehgiooklaa.G.Mem.ldW (Go.Proofs.Ythgagehgiooklaa.G.Mem.crM (Go.Proofs.Ythgagehgiooklaa.G.Mem.feM (Go.Proofs.Ythgagehgiooklaa.G.Mem.flM (Go.Proofs.Ythgagehgiooklaa.G.feMM (fun (i : Nat) => g1 ((0 : Nat) + i) (0 : Nat)) (Go.Proofs.Ythgagehgiooklaa.G.r_kind_0 x0 (Go.IntKind.wrap Go.IntKind.i64 ((if (8 : Int) < (↑n1 : Int) then (8 : Int) else (↑n1 : Int)) + (1 : Int)))) (Int.toNat ((if (8 : Int) < (↑n1 : Int) then (8 : Int) else (↑n1 : Int)) - (0 : Int))) (0 : Nat) (Go.Proofs.Ythgagehgiooklaa.G.newM (64 : Nat))) (2 : Int) (9 : Int)) (2 : Int)) (fun (j : Nat) => g2 ((0 : Nat) + j) (0 : Nat)) n2) (9 : Int) (7 : Nat))))
noncomputable def NvmFenced_c1 (x0 : Int) (n1 : Nat) (g1 : Nat → Nat → Int) (n2 : Nat) (g2 : Nat → Nat → Int) : Bool := Go.Proofs.Ythgagehgiooklaa.G.pdec (Go.Proofs.Ythgagehgiooklaa.G.preSome n1 (if (8 : Int) < (↑n1 : Int) then (8 : Int) else (↑n1 : Int)) (Go.Proofs.Ythgagehgiooklaa.G.r_kind_0 x0 (Go.IntKind.wrap Go.IntKind.i64 ((if (8 : Int) < (↑n1 : Int) then (8 : Int) else (↑n1 : Int)) + (1 : Int)))) (fun (i : Nat) => g1 ((0 : Nat) + i) (0 : Nat)) (Go.Proofs.Ythgagehgiooklaa.G.w8 (Go.Proofs.Ythgagehgiooklaa.G.Mem.ldW (Go.Proofs.Ythgagehgiooklaa.G.Mem.crM (Go.Proofs.Ythgagehgiooklaa.G.feMM (fun (i : Nat) => g1 ((0 : Nat) + i) (0 : Nat)) (Go.Proofs.Ythgagehgiooklaa.G.r_kind_0 x0 (Go.IntKind.wrap Go.IntKind.i64 ((if (8 : Int) < (↑n1 : Int) then (8 : Int) else (↑n1 : Int)) + (1 : Int)))) (Int.toNat ((if (8 : Int) < (↑n1 : Int) then (8 : Int) else (↑n1 : Int)) - (0 : Int))) (0 : Nat) (Go.Proofs.Ythgagehgiooklaa.G.newM (64 : Nat))) (fun (j : Nat) => g2 ((0 : Nat) + j) (0 : Nat)) n2) (9 : Int) (0 : Nat)) (Go.Proofs.Ythgagehgiooklaa.G.Mem.ldW (Go.Proofs.Ythgagehgiooklaa.G.Mem.crM (Go.Proofs.Ythgagehgiooklaa.G.feMM (fun (i : Nat) => g1 ((0 : Nat) + i) (0 : Nat)) (Go.Proofs.Ythgagehgiooklaa.G.r_kind_0 x0 (Go.IntKind.wrap Go.IntKind.i64 ((if (8 : Int) < (↑n1 : Int) then (8 : Int) else (↑n1 : Int)) + (1 : Int)))) (Int.toNat ((if (8 : Int) < (↑n1 : Int) then (8 : Int) else (↑n1 : Int)) - (0 : Int))) (0 : Nat) (Go.Proofs.Ythgagehgiooklaa.G.newM (64 : Nat))) (fun (j : Nat) => g2 ((0 : Nat) + j) (0 : Nat)) n2) (9 : Int) (1 : Nat)) (Go.Proofs.Ythgagehgiooklaa.G.Mem.ldW (Go.Proofs.Ythgagehgiooklaa.G.Mem.crM (Go.Proofs.Ythgagehgiooklaa.G.feMM (fun (i : Nat) => g1 ((0 : Nat) + i) (0 : Nat)) (Go.Proofs.Ythgagehgiooklaa.G.r_kind_0 x0 (Go.IntKind.wrap Go.IntKind.i64 ((if (8 : Int) < (↑n1 : Int) then (8 : Int) else (↑n1 : Int)) + (1 : Int)))) (Int.toNat ((if (8 : Int) < (↑n1 : Int) then (8 : Int) else (↑n1 : Int)) - (0 : Int))) (0 : Nat) (Go.Proofs.Ythgagehgiooklaa.G.newM (64 : Nat))) (fun (j : Nat) => g2 ((0 : Nat) + j) (0 : Nat)) n2) (9 : Int) (2 : Nat)) (Go.Proofs.Ythgagehgiooklaa.G.Mem.ldW (Go.Proofs.Ythgagehgiooklaa.G.Mem.crM (Go.Proofs.Ythgagehgiooklaa.G.feMM (fun (i : Nat) => g1 ((0 : Nat) + i) (0 : Nat)) (Go.Proofs.Ythgagehgiooklaa.G.r_kind_0 x0 (Go.IntKind.wrap Go.IntKind.i64 ((if (8 : Int) < (↑n1 : Int) then (8 : Int) else (↑n1 : Int)) + (1 : Int)))) (Int.toNat ((if (8 : Int) < (↑n1 : Int) then (8 : Int) else (↑n1 : Int)) - (0 : Int))) (0 : Nat) (Go.Proofs.Ythgagehgiooklaa.G.newM (64 : Nat))) (fun (j : Nat) => g2 ((0 : Nat) + j) (0 : Nat)) n2) (9 : Int) (3 : Nat)) (Go.Proofs.Ythgagehgiooklaa.G.Mem.ldW (Go.Proofs.Ythgagehgiooklaa.G.Mem.crM (Go.Proofs.Ythgagehgiooklaa.G.feMM (fun (i : Nat) => g1 ((0 : Nat) + i) (0 : Nat)) (Go.Proofs.Ythgagehgiooklaa.G.r_kind_0 x0 (Go.IntKind.wrap Go.IntKind.i64 ((if (8 : Int) < (↑n1 : Int) then (8 : Int) else (↑n1 : Int)) + (1 : Int)))) (Int.toNat ((if (8 : Int) < (↑n1 : Int) then (8 : Int) else (↑n1 : Int)) - (0 : Int))) (0 : Nat) (Go.Proofs.Ythgagehgiooklaa.G.newM (64 : Nat))) (fun (j : Nat) => g2 ((0 : Nat) + j) (0 : Nat)) n2) (9 : Int) (4 : Nat)) (Go.Proofs.Ythgagehgiooklaa.G.Mem.ldW (Go.Proofs.Ythgagehgiooklaa.G.Mem.crM (Go.Proofs.Ythgagehgiooklaa.G.feMM (fun (i : Nat) => g1 ((0 : Nat) + i) (0 : Nat)) (Go.Proofs.Ythgagehgiooklaa.G.r_kind_0 x0 (Go.IntKind.wrap Go.IntKind.i64 ((if (8 : Int) < (↑n1 : Int) then (8 : Int) else (↑n1 : Int)) + (1 : Int)))) (Int.toNat ((if (8 : Int) < (↑n1 : Int) then (8 : Int) else (↑n1 : Int)) - (0 : Int))) (0 : Nat) (Go.Proofs.Ythgagehgiooklaa.G.newM (64 : Nat))) (fun (j : Nat) => g2 ((0 : Nat) + j) (0 : Nat)) n2) (9 : Int) (5 : Nat)) (Go.Proofs.Ythgagehgiooklaa.G.Mem.ldW (Go.Proofs.Ythgagehgiooklaa.G.Mem.crM (Go.Proofs.Ythgagehgiooklaa.G.feMM (fun (i : Nat) => g1 ((0 : Nat) + i) (0 : Nat)) (Go.Proofs.Ythgagehgiooklaa.G.r_kind_0 x0 (Go.IntKind.wrap Go.IntKind.i64 ((if (8 : Int) < (↑n1 : Int) then (8 : Int) else (↑n1 : Int)) + (1 : Int)))) (Int.toNat ((if (8 : Int) < (↑n1 : Int) then (8 : Int) else (↑n1 : Int)) - (0 : Int))) (0 : Nat) (Go.Proofs.Ythgagehgiooklaa.G.newM (64 : Nat))) (fun (j : Nat) => g2 ((0 : Nat) + j) (0 : Nat)) n2) (9 : Int) (6 : Nat)) (Go.Proofs.Ythgagehgiooklaa.G.Mem.ldW (Go.Proofs.Ythgagehgiooklaa.G.Mem.crM (Go.Proofs.Ythgagehgiooklaa.G.feMM (fun (i : Nat) => g1 ((0 : Nat) + i) (0 : Nat)) (Go.Proofs.Ythgagehgiooklaa.G.r_kind_0 x0 (Go.IntKind.wrap Go.IntKind.i64 ((if (8 : Int) < (↑n1 : Int) then (8 : Int) else (↑n1 : Int)) + (1 : Int)))) (Int.toNat ((if (8 : Int) < (↑n1 : Int) then (8 : Int) else (↑n1 : Int)) - (0 : Int))) (0 : Nat) (Go.Proofs.Ythgagehgiooklaa.G.newM (64 : Nat))) (fun (j : Nat) => g2 ((0 : Nat) + j) (0 : Nat)) n2) (9 : Int) (7 : Nat))))
noncomputable def T_NvmFenced (x0 : Int) (n1 : Nat) (g1 : Nat → Nat → Int) (n2 : Nat) (g2 : Nat → Nat → Int) : Tr (List At) :=
 .br 0 (Bool.false)
 (.ok [(.b (Bool.false))])
 (.br 0 (Go.Proofs.Ythgagehgiooklaa.G.ok_kind x0 (Go.IntKind.wrap Go.IntKind.i64 ((if (8 : Int) < (↑n1 : Int) then (8 : Int) else (↑n1 : Int)) + (1 : Int))))
 (.br 0 (Go.Proofs.Ythgagehgiooklaa.G.pdec (Go.Proofs.Ythgagehgiooklaa.G.preFd n1 (if (8 : Int) < (↑n1 : Int) then (8 : Int) else (↑n1 : Int)) (0 : Int) (Go.Proofs.Ythgagehgiooklaa.G.newM (64 : Nat))))
 (.br 57 (Go.Proofs.Ythgagehgiooklaa.G.r_kind_0 x0 (Go.IntKind.wrap Go.IntKind.i64 ((if (8 : Int) < (↑n1 : Int) then (8 : Int) else (↑n1 : Int)) + (1 : Int))) == if (8 : Int) < (↑n1 : Int) then (8 : Int) else (↑n1 : Int))
 (.br 0 (Go.Proofs.Ythgagehgiooklaa.G.pdec (Go.Proofs.Ythgagehgiooklaa.G.Mem.Ok (900000 : Int) (Go.Proofs.Ythgagehgiooklaa.G.feMM (fun (i : Nat) => g1 ((0 : Nat) + i) (0 : Nat)) (Go.Proofs.Ythgagehgiooklaa.G.r_kind_0 x0 (Go.IntKind.wrap Go.IntKind.i64 ((if (8 : Int) < (↑n1 : Int) then (8 : Int) else (↑n1 : Int)) + (1 : Int)))) (Int.toNat ((if (8 : Int) < (↑n1 : Int) then (8 : Int) else (↑n1 : Int)) - (0 : Int))) (0 : Nat) (Go.Proofs.Ythgagehgiooklaa.G.newM (64 : Nat)))))
 (.br 0 (Go.Proofs.Ythgagehgiooklaa.G.pdec (Go.Proofs.Ythgagehgiooklaa.G.Mem.Ok (900000 : Int) (Go.Proofs.Ythgagehgiooklaa.G.Mem.flM (Go.Proofs.Ythgagehgiooklaa.G.feMM (fun (i : Nat) => g1 ((0 : Nat) + i) (0 : Nat)) (Go.Proofs.Ythgagehgiooklaa.G.r_kind_0 x0 (Go.IntKind.wrap Go.IntKind.i64 ((if (8 : Int) < (↑n1 : Int) then (8 : Int) else (↑n1 : Int)) + (1 : Int)))) (Int.toNat ((if (8 : Int) < (↑n1 : Int) then (8 : Int) else (↑n1 : Int)) - (0 : Int))) (0 : Nat) (Go.Proofs.Ythgagehgiooklaa.G.newM (64 : Nat))) (2 : Int) (9 : Int))))
 (.br 0 (Go.Proofs.Ythgagehgiooklaa.G.pdec (Go.Proofs.Ythgagehgiooklaa.G.Mem.Ok (900000 : Int) (Go.Proofs.Ythgagehgiooklaa.G.Mem.feM (Go.Proofs.Ythgagehgiooklaa.G.Mem.flM (Go.Proofs.Ythgagehgiooklaa.G.feMM (fun (i : Nat) => g1 ((0 : Nat) + i) (0 : Nat)) (Go.Proofs.Ythgagehgiooklaa.G.r_kind_0 x0 (Go.IntKind.wrap Go.IntKind.i64 ((if (8 : Int) < (↑n1 : Int) then (8 : Int) else (↑n1 : Int)) + (1 : Int)))) (Int.toNat ((if (8 : Int) < (↑n1 : Int) then (8 : Int) else (↑n1 : Int)) - (0 : Int))) (0 : Nat) (Go.Proofs.Ythgagehgiooklaa.G.newM (64 : Nat))) (2 : Int) (9 : Int)) (2 : Int))))
 (.br 0 (Go.Proofs.Ythgagehgiooklaa.G.pdec (Go.Proofs.Ythgagehgiooklaa.G.KeepOk (fun (j : Nat) => g2 ((0 : Nat) + j) (0 : Nat)) n2))
 (.br 71 (Go.Proofs.Ythgagehgiooklaa.G.Mem.ldC (Go.Proofs.Ythgagehgiooklaa.G.Mem.crM (Go.Proofs.Ythgagehgiooklaa.G.Mem.feM (Go.Proofs.Ythgagehgiooklaa.G.Mem.flM (Go.Proofs.Ythgagehgiooklaa.G.feMM (fun (i : Nat) => g1 ((0 : Nat) + i) (0 : Nat)) (Go.Proofs.Ythgagehgiooklaa.G.r_kind_0 x0 (Go.IntKind.wrap Go.IntKind.i64 ((if (8 : Int) < (↑n1 : Int) then (8 : Int) else (↑n1 : Int)) + (1 : Int)))) (Int.toNat ((if (8 : Int) < (↑n1 : Int) then (8 : Int) else (↑n1 : Int)) - (0 : Int))) (0 : Nat) (Go.Proofs.Ythgagehgiooklaa.G.newM (64 : Nat))) (2 : Int) (9 : Int)) (2 : Int)) (fun (j : Nat) => g2 ((0 : Nat) + j) (0 : Nat)) n2) (9 : Int) != (0 : Int))
 (.ok [(.b (Bool.false))])
 (.br 0 ((NvmFenced_c0 x0 n1 g1 n2 g2))
 (.ok [(.b (Bool.true))])
 (.no)))
 (.no))
 (.no))
 (.no))
 (.no))
 (.br 0 (Go.Proofs.Ythgagehgiooklaa.G.pdec (Go.Proofs.Ythgagehgiooklaa.G.Mem.Ok (900000 : Int) (Go.Proofs.Ythgagehgiooklaa.G.feMM (fun (i : Nat) => g1 ((0 : Nat) + i) (0 : Nat)) (Go.Proofs.Ythgagehgiooklaa.G.r_kind_0 x0 (Go.IntKind.wrap Go.IntKind.i64 ((if (8 : Int) < (↑n1 : Int) then (8 : Int) else (↑n1 : Int)) + (1 : Int)))) (Int.toNat ((if (8 : Int) < (↑n1 : Int) then (8 : Int) else (↑n1 : Int)) - (0 : Int))) (0 : Nat) (Go.Proofs.Ythgagehgiooklaa.G.newM (64 : Nat)))))
 (.br 0 (Go.Proofs.Ythgagehgiooklaa.G.pdec (Go.Proofs.Ythgagehgiooklaa.G.KeepOk (fun (j : Nat) => g2 ((0 : Nat) + j) (0 : Nat)) n2))
 (.br 71 (Go.Proofs.Ythgagehgiooklaa.G.Mem.ldC (Go.Proofs.Ythgagehgiooklaa.G.Mem.crM (Go.Proofs.Ythgagehgiooklaa.G.feMM (fun (i : Nat) => g1 ((0 : Nat) + i) (0 : Nat)) (Go.Proofs.Ythgagehgiooklaa.G.r_kind_0 x0 (Go.IntKind.wrap Go.IntKind.i64 ((if (8 : Int) < (↑n1 : Int) then (8 : Int) else (↑n1 : Int)) + (1 : Int)))) (Int.toNat ((if (8 : Int) < (↑n1 : Int) then (8 : Int) else (↑n1 : Int)) - (0 : Int))) (0 : Nat) (Go.Proofs.Ythgagehgiooklaa.G.newM (64 : Nat))) (fun (j : Nat) => g2 ((0 : Nat) + j) (0 : Nat)) n2) (9 : Int) != (0 : Int))
 (.ok [(.b (Bool.false))])
 (.br 0 ((NvmFenced_c1 x0 n1 g1 n2 g2))
 (.ok [(.b (Bool.true))])
 (.no)))
 (.no))
 (.no)))
 (.no))
 (.no))
noncomputable def y_NvmFenced : Nat → Option Nat := (syOf3 [57, 71] [] [])
noncomputable def TL_NvmFenced (l : List At) : Tr (List At) := T_NvmFenced (aI l 0) (aRn l 1) (aRg l 1) (aRn l 2) (aRg l 2)
theorem e_NvmFenced (l : List At) : (call Try.prog Γ_S13 y_NvmFenced Lp_NvmFenced_22 100 Try.f3 (mkV ish_NvmFenced l) (mkH ish_NvmFenced l)).bind (leafO ish_NvmFenced.hp.length ⟨[.v false [.k .b]], List.replicate ish_NvmFenced.hp.length .no⟩) = TL_NvmFenced l := by kernel_rfl

end Go.Proofs.Ythgagehgiooklaa.G
end

/-
  The plain law of NvmFenced.
-/
section
namespace Go.Proofs.Ythgagehgiooklaa.G
open Go Go.AM Go.Proofs

def huS (u : Nat → Int) : Nat → Int := fun j => if j % 2 = 0 then ((j / 2 : Nat) : Int) else u (j / 2)
theorem huS_at (u : Nat → Int) (j : Nat) : huS u (j * 2) = (j : Int) ∧ huS u (j * 2 + 1) = u j := by
  unfold huS
  rw [if_pos (by omega), if_neg (by omega), show j * 2 / 2 = j by omega, show (j * 2 + 1) / 2 = j by omega]
  exact ⟨rfl, rfl⟩

theorem seW_ap {u : Nat → Int} : ∀ (m i : Nat) (w : Nat → Int), seW u m i w = apF w (huS u) i m
  | 0, _, _ => rfl
  | m + 1, i, w => by
    rw [seW, seW_ap m (i + 1), apF, (huS_at u i).1, (huS_at u i).2]
    rfl

/-- The line 9: 'a' of the first 'i' values are sure. -/
structure FeInv (u : Nat → Int) (a i : Nat) (M : Mem) : Prop where
  le : a ≤ i
  on : M.on
  n : M.n = 64
  cnt : M.g 9 16 = ((i - a : Nat) : Int)
  coh : Coh (M.g 9) (M.h 9)
  sure : ∀ c, c < 8 → sur (M.g 9) c = apF (fun _ => 0) (huS u) 0 a c
  st : ∀ j, j < i - a → M.h 9 (j * 2) = ((a + j : Nat) : Int) ∧ M.h 9 (j * 2 + 1) = u (a + j)

theorem fe_store {u : Nat → Int} {a i : Nat} {M : Mem} (h : FeInv u a i M) (hi : i < 8) : FeInv u a (i + 1) (M.stM 9 (i : Int) (u i)) := by
  have hle := h.le
  have hb : M.bad 9 (i : Int) = false := bad_of ⟨by decide, by rw [h.n]; decide, by omega, by omega⟩
  have e := stM_on (v := u i) h.on hb
  have eg : (M.stM 9 (i : Int) (u i)).g 9 = stR (M.g 9) (i : Int).toNat (u i) := by rw [e]; show updR M.g 9 _ 9 = _; exact updR_self
  have eh : (M.stM 9 (i : Int) (u i)).h 9 = stH (M.h 9) (M.g 9 16).toNat (i : Int) (u i) := by rw [e]; show updR M.h 9 _ 9 = _; exact updR_self
  have hc : (M.g 9 16).toNat = i - a := by rw [h.cnt]; omega
  refine ⟨by omega, stM_on' h.on, by rw [stM_n]; exact h.n, ?_, ?_, fun c hc => ?_, fun j hj => ?_⟩
  · rw [eg, show stR (M.g 9) (i : Int).toNat (u i) 16 = M.g 9 16 + 1 from if_pos rfl, h.cnt]; omega
  · rw [eg, eh]; exact coh_st h.coh (by rw [h.cnt]; omega) (by omega)
  · rw [eg, ← h.sure c hc]
    show (if 8 + c = 16 then M.g 9 16 + 1 else if 8 + c = (i : Int).toNat then u i else M.g 9 (8 + c)) = M.g 9 (8 + c)
    rw [if_neg (by omega), if_neg (by omega)]
  · rw [eh, hc]
    unfold stH
    by_cases hji : j = i - a
    · subst hji
      rw [if_pos rfl, if_neg (by omega), if_pos rfl, show a + (i - a) = i by omega]
      exact ⟨rfl, rfl⟩
    · rw [if_neg (by omega), if_neg (by omega), if_neg (by omega), if_neg (by omega)]
      exact h.st j (by omega)

theorem fe_fence {u : Nat → Int} {i : Nat} {M : Mem} (h : FeInv u 0 i M) : FeInv u i i ((M.flM 2 9).feM 2) := by
  have hb : M.bad 9 2 = false := bad_of ⟨by decide, by rw [h.n]; decide, by decide, by decide⟩
  have e1 := flM_on h.on hb
  have o1 : (M.flM 2 9).on := flM_on' h.on
  have e2 := feM_on o1 (corB_of (c := 2) (by decide))
  generalize hM1 : M.flM 2 9 = M1 at *
  have g1 : M1.g 9 = flR (M.g 9) 2 := by rw [e1]; show updR M.g 9 _ 9 = _; exact updR_self
  have h1 : M1.h = M.h := by rw [e1]; rfl
  have n1 : M1.n = 64 := by rw [e1]; exact h.n
  have cn : M.g 9 16 = (i : Int) := by rw [h.cnt, Nat.sub_zero]
  have f19 : M1.g 9 19 = (i : Int) := by rw [g1]; show M.g 9 16 = _; exact cn
  have f16 : M1.g 9 16 = (i : Int) := by rw [g1, flR_lo (by omega)]; exact cn
  have c1 : Coh (M1.g 9) (M1.h 9) := by rw [g1, h1]; exact coh_fl h.coh
  have key : ∀ c, c < 8 → apF (sur (M1.g 9)) (M1.h 9) 0 i c = apF (fun _ => 0) (huS u) 0 i c := fun c hc =>
    apF_pt _ _ _ _ _ _ (by
      rw [g1]
      show flR (M.g 9) 2 (8 + c) = 0
      rw [flR_lo (by omega)]
      exact h.sure c hc) fun p _ hp => by
        obtain ⟨s1, s2⟩ := h.st p (by omega)
        obtain ⟨k1, k2⟩ := huS_at u p
        rw [h1, s1, s2, k1, k2, Nat.zero_add]
        exact ⟨rfl, rfl⟩
  have eg : (M1.feM 2).g 9 = feG M1.n M1.g M1.h 19 0 9 := by rw [e2]; rfl
  have eh : (M1.feM 2).h 9 = feH M1.n M1.g M1.h 19 0 9 := by rw [e2]; rfl
  unfold feG at eg
  unfold feH at eh
  rw [f19] at eg eh
  by_cases hp : (i : Int) > 0
  · rw [if_pos ⟨Nat.zero_le _, by omega, hp⟩, Int.toNat_natCast] at eg eh
    refine ⟨Nat.le_refl _, feM_on' o1, by rw [feM_n, n1], ?_, ?_, fun c hc => ?_, fun j hj => by omega⟩
    · rw [eg, rowS16, f16]; omega
    · rw [eg, eh]; exact coh_rowS c1 (by omega)
    · rw [eg, rowS_sur hc, key c hc]
  · obtain rfl : i = 0 := by omega
    rw [if_neg (fun hh => hp hh.2.2)] at eg eh
    refine ⟨Nat.le_refl _, feM_on' o1, by rw [feM_n, n1], ?_, ?_, fun c hc => ?_, fun j hj => by omega⟩
    · rw [eg, f16]
    · rw [eg, eh]; exact c1
    · rw [eg, ← key c hc]; rfl

theorem fe_all {u : Nat → Int} {k : Nat} : ∀ (m i a : Nat) (M : Mem), FeInv u a i M → a = (if k < i then k else 0) → i + m ≤ 8 → FeInv u (if k < i + m then k else 0) (i + m) (feMM u (k : Int) m i M)
  | 0, i, a, M, h, ha, _ => by rw [Nat.add_zero, ← ha]; exact h
  | m + 1, i, a, M, h, ha, hm => by
    rw [feMM, show i + (m + 1) = (i + 1) + m by omega]
    by_cases hk : (i : Int) = (k : Int)
    · rw [if_pos hk]
      have hik : i = k := by omega
      rw [if_neg (by omega)] at ha
      subst ha
      exact fe_all m (i + 1) i _ (fe_store (fe_fence h) (by omega)) (by rw [if_pos (by omega)]; exact hik) (by omega)
    · rw [if_neg hk]
      refine fe_all m (i + 1) a _ (fe_store h (by omega)) ?_ (by omega)
      rw [ha]
      by_cases h2 : k < i
      · rw [if_pos h2, if_pos (by omega)]
      · rw [if_neg h2, if_neg (by omega)]

theorem fe_new (u : Nat → Int) : FeInv u 0 0 (newM 64) := ⟨Nat.le_refl _, newM_on _, rfl, rfl, fun _ _ => rfl, fun _ _ => rfl, fun _ hj => absurd hj (Nat.not_lt_zero _)⟩

theorem feMM_ok {u : Nat → Int} {k : Int} : ∀ (m i : Nat) (M : Mem) (K : Int), M.Ok K → K + 3 * m ≤ 900000 → (feMM u k m i M).Ok (K + 3 * m)
  | 0, _, _, _, h, _ => h.mono (by omega)
  | m + 1, i, M, K, h, hK => by
    rw [feMM]
    refine (feMM_ok m (i + 1) _ (K + 3) ?_ (by omega)).mono (by omega)
    split
    · exact stM_ok (feM_ok (flM_ok h)) (by omega) |>.mono (by omega)
    · exact (stM_ok h (by omega)).mono (by omega)

theorem crK_le {q : Nat → Int} {kn j : Nat} {s : Int} (hs : 0 ≤ s) : (crK q kn j s : Int) ≤ s := by
  unfold crK
  have h1 := Int.emod_nonneg (kv q kn j) (b := s + 1) (by omega)
  have h2 := Int.emod_lt_of_pos (kv q kn j) (b := s + 1) (by omega)
  omega

theorem fe_law {u : Nat → Int} {a i : Nat} {M : Mem} (h : FeInv u a i M) (q : Nat → Int) (kn : Nat) : ∃ many : Nat, a ≤ many ∧ many ≤ i ∧ ∀ c, c < 8 → (M.crM q kn).ldW 9 c = seW u many 0 (w8 0 0 0 0 0 0 0 0) c := by
  have hle := h.le
  have e8 : w8 0 0 0 0 0 0 0 0 = fun _ => 0 := by
    funext c
    match c with
    | 0 | 1 | 2 | 3 | 4 | 5 | 6 | 7 => rfl
    | c + 8 => rfl
  have key : ∀ K c, K ≤ i - a → c < 8 → apF (sur (M.g 9)) (M.h 9) 0 K c = apF (fun _ => 0) (huS u) 0 (a + K) c := fun K c hK hc => by
    rw [apF_add, Nat.zero_add, ← Nat.zero_add a, ← apF_shift, Nat.zero_add]
    refine apF_pt _ _ _ _ _ _ (h.sure c hc) fun p _ hp => ?_
    obtain ⟨s1, s2⟩ := h.st p (by omega)
    obtain ⟨k1, k2⟩ := huS_at u (a + p)
    rw [s1, s2, show p * 2 + 2 * a = (a + p) * 2 by omega, show p * 2 + 1 + 2 * a = (a + p) * 2 + 1 by omega, k1, k2]
    exact ⟨rfl, rfl⟩
  have ew : ∀ c, (M.crM q kn).ldW 9 c = crG M.n M.g M.h q kn 0 9 c := fun c => ldW_on crM_on ⟨by decide, by show (9 : Int) < M.n; rw [h.n]; decide⟩
  by_cases hp : M.g 9 16 > 0
  · generalize hK : crK q kn (cntU M.g 0 (9 - 0)) (M.g 9 16) = K
    have hKl : (K : Int) ≤ M.g 9 16 := by rw [← hK]; exact crK_le (by omega)
    have hc := h.cnt
    refine ⟨a + K, by omega, by omega, fun c hcc => ?_⟩
    rw [ew, seW_ap, e8]
    unfold crG
    rw [if_pos ⟨Nat.zero_le _, by rw [h.n]; decide, hp⟩, hK, crR_now hcc, key K c (by omega) hcc]
  · have hc := h.cnt
    refine ⟨i, hle, Nat.le_refl _, fun c hcc => ?_⟩
    rw [ew, seW_ap, e8]
    unfold crG
    rw [if_neg (fun hh => hp hh.2.2), h.coh c hcc, h.cnt, Int.toNat_natCast, key _ c (Nat.le_refl _) hcc, show a + (i - a) = i by omega]

theorem vc_NvmFenced (x0 : Int) (n1 : Nat) (g1 : Nat → Nat → Int) (n2 : Nat) (g2 : Nat → Nat → Int) (x0l : -9223372036854775808 ≤ x0) (x0h : x0 ≤ 9223372036854775807) (_b : n1 ≤ maxLen) (_w : ∀ (i c : Nat) (k : SK), i < n1 → [SK.n .u64][c]? = some k → wfS k (g1 i c))
    (_b2 : n2 ≤ maxLen) (w2 : ∀ (i c : Nat) (k : SK), i < n2 → [SK.n .i64][c]? = some k → wfS k (g2 i c)) : (T_NvmFenced x0 n1 g1 n2 g2).sat fun r => r = [.b true] := by
  have h0 : (newM 64).Ok 0 := newM_ok (by decide)
  unfold T_NvmFenced NvmFenced_c0 NvmFenced_c1
  generalize hm : (if (8 : Int) < (n1 : Int) then (8 : Int) else (n1 : Int)) = mi
  have hm0 : 0 ≤ mi ∧ mi ≤ 8 ∧ mi ≤ n1 := by subst hm; split <;> omega
  rw [wrap_i64 (x := mi + 1) (by omega) (by omega), Int.sub_zero]
  obtain ⟨k1, kx, kx2⟩ := kind_in (n := mi + 1) x0l x0h (by omega) (by omega)
  generalize r_kind_0 x0 (mi + 1) = k at *
  obtain ⟨k, rfl⟩ := Int.eq_ofNat_of_zero_le kx
  obtain ⟨m, rfl⟩ := Int.eq_ofNat_of_zero_le hm0.1
  generalize hu : (fun i => g1 (0 + i) 0) = u
  rw [Int.toNat_natCast]
  have hq : KeepOk (fun j => g2 (0 + j) 0) n2 := fun j hj => w2 (0 + j) 0 (.n .i64) (by omega) rfl
  have inv := fe_all (k := k) m 0 0 _ (fe_new u) (by rw [if_neg (by omega)]) (by omega)
  rw [Nat.zero_add] at inv
  have ok1 := feMM_ok (u := u) (k := (k : Int)) m 0 _ 0 h0 (by omega)
  refine brF rfl (brT k1 (brT (pdec_yes ⟨by omega, by omega, by omega, by omega, h0.mono (by omega)⟩) (brQ (fun hk => ?_) (fun hk => ?_))))
  · obtain rfl : k = m := by omega
    rw [if_neg (by omega)] at inv
    have inv2 := fe_fence inv
    have ok2 := flM_ok (c := 2) (i := 9) ok1
    have ok3 := feM_ok (c := 2) ok2
    obtain ⟨many, m1, m2, m3⟩ := fe_law inv2 (fun j => g2 (0 + j) 0) n2
    refine brT (pdec_yes (ok1.mono (by omega))) (brT (pdec_yes (ok2.mono (by omega))) (brT (pdec_yes (ok3.mono (by omega))) (brT (pdec_yes hq) (brF ?_ (brT (pdec_yes ⟨by omega, by omega, by omega, many, by omega, by omega, fun c hc => ?_⟩) (Tr.sat_ok.2 rfl))))))
    · rw [ldC_on crM_on ⟨by decide, by show (9 : Int) < (((feMM u (k : Int) k 0 (newM 64)).flM 2 9).feM 2).n; rw [inv2.n]; decide⟩]; rfl
    · match c, hc with
      | 0, hc | 1, hc | 2, hc | 3, hc | 4, hc | 5, hc | 6, hc | 7, hc => exact m3 _ hc
  · rw [if_pos (show k < m by omega)] at inv
    obtain ⟨many, m1, m2, m3⟩ := fe_law inv (fun j => g2 (0 + j) 0) n2
    refine brT (pdec_yes (ok1.mono (by omega))) (brT (pdec_yes hq) (brF ?_ (brT (pdec_yes ⟨by omega, by omega, by omega, many, by omega, by omega, fun c hc => ?_⟩) (Tr.sat_ok.2 rfl))))
    · rw [ldC_on crM_on ⟨by decide, by show (9 : Int) < (feMM u (k : Int) m 0 (newM 64)).n; rw [inv.n]; decide⟩]; rfl
    · match c, hc with
      | 0, hc | 1, hc | 2, hc | 3, hc | 4, hc | 5, hc | 6, hc | 7, hc => exact m3 _ hc
end Go.Proofs.Ythgagehgiooklaa.G
end
