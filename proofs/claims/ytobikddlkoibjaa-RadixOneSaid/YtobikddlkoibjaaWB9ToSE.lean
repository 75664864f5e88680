/-
  What functions of the seat compute, printed by a program from the explorer.
-/
import Derived.Test.YtobikddlkoibjaaDynToE1
import Derived.KernelRfl
import Derived.Test.YtobikddlkoibjaaAn5ToAnR
import Derived.Test.YtobikddlkoibjaaAmEToAn4
section
namespace Go.Proofs.Ytobikddlkoibjaa.G
open Go Go.AM Go.Proofs
/-! ### rIs -/

def ish_rIs : FSh := ⟨[.v false [.k (.n .i64)], .v false [.k (.n .i64)]], []⟩
def osh_rIs : FSh := ⟨[.v false [.k .b]], []⟩
def T_rIs (x0 : Int) (x1 : Int) : Tr (List At) :=
 .br 7 (decide (x0 ≥ (0 : Int)))
 (.br 11 (decide (x0 ≤ (63 : Int)))
 (.br 15 (decide (x1 ≥ (1 : Int)))
 (.br 19 (decide (x1 ≤ (64 : Int)))
 (.ok [(.b (decide (IntKind.wrap IntKind.i64 (x0 + x1) ≤ (64 : Int))))])
 (.ok [(.b (false))]))
 (.ok [(.b (false))]))
 (.ok [(.b (false))]))
 (.ok [(.b (false))])
def y_rIs : Nat → Option Nat := (syOf3 [7, 11, 15, 19] [] [])
def TL_rIs (l : List At) : Tr (List At) := T_rIs (aI l 0) (aI l 1)
theorem e_rIs (l : List At) : (call Try.prog Γ_gPart y_rIs noLoops 100 Try.f57 (mkV ish_rIs l) (mkH ish_rIs l)).bind (leafO 0 osh_rIs) = TL_rIs l := by kernel_rfl
def r_rIs_0 (x0 : Int) (x1 : Int) : Bool :=
  bif decide (x0 ≥ (0 : Int)) then (bif decide (x0 ≤ (63 : Int)) then (bif decide (x1 ≥ (1 : Int)) then (bif decide (x1 ≤ (64 : Int)) then (decide (IntKind.wrap IntKind.i64 (x0 + x1) ≤ (64 : Int)))
  else false)
  else false)
  else false)
  else false
def F_rIs : List At → Tr (List At) := fun l => .ok [.b (r_rIs_0 (aI l 0) (aI l 1))]
theorem s_rIs : SpecF Try.prog 57 (.pure (locP ish_rIs osh_rIs F_rIs)) :=
  spec_locP (sy := y_rIs) (fuel := 100) (Lp := noLoops) o_gPart mixed ⟨Try.func57, by kernel_rfl, by kernel_rfl⟩ ish_rIs osh_rIs rfl (noLoops_ok _) (hT_merged [.b] e_rIs (fun l => by kernel_rfl) (fun l => by kernel_rfl))
def Γ_rIs : Specs := upd Γ_gPart 57 (.pure (locP ish_rIs osh_rIs F_rIs))
theorem o_rIs : SpecOK Try.prog Γ_rIs := SpecOK.upd o_gPart s_rIs

/-! ### rBit -/

def ish_rBit : FSh := ⟨[.v false [.k (.n .u64)], .v false [.k (.n .i64)]], []⟩
def osh_rBit : FSh := ⟨[.v false [.k (.n .u64)]], []⟩
def T_rBit (x0 : Int) (x1 : Int) : Tr (List At) :=
 .br 7 (decide ((0 : Int) ≤ x1))
 (.ok [(.i (bits BinOp.and IntKind.u64 (Int.fdiv x0 ((2 : Int) ^ shiftN IntKind.u64 x1)) (1 : Int)))])
 (.no)
def y_rBit : Nat → Option Nat := (syOf3 [7] [] [])
def TL_rBit (l : List At) : Tr (List At) := T_rBit (aI l 0) (aI l 1)
theorem e_rBit (l : List At) : (call Try.prog Γ_rIs y_rBit noLoops 100 Try.f58 (mkV ish_rBit l) (mkH ish_rBit l)).bind (leafO 0 osh_rBit) = TL_rBit l := by kernel_rfl
def r_rBit_0 (x0 : Int) (x1 : Int) : Int :=
  bif decide ((0 : Int) ≤ x1) then (bits BinOp.and IntKind.u64 (Int.fdiv x0 ((2 : Int) ^ shiftN IntKind.u64 x1)) (1 : Int))
  else 0
def ok_rBit (x0 : Int) (x1 : Int) : Bool :=
  bif decide ((0 : Int) ≤ x1) then (true)
  else false
def F_rBit : List At → Tr (List At) := fun l => .br 0 (ok_rBit (aI l 0) (aI l 1)) (.ok [.i (r_rBit_0 (aI l 0) (aI l 1))]) .no
theorem s_rBit : SpecF Try.prog 58 (.pure (locP ish_rBit osh_rBit F_rBit)) :=
  spec_locP (sy := y_rBit) (fuel := 100) (Lp := noLoops) o_rIs mixed ⟨Try.func58, by kernel_rfl, by kernel_rfl⟩ ish_rBit osh_rBit rfl (noLoops_ok _) (hT_merged [.i] e_rBit (fun l => by kernel_rfl) (fun l => by kernel_rfl))
def Γ_rBit : Specs := upd Γ_rIs 58 (.pure (locP ish_rBit osh_rBit F_rBit))
theorem o_rBit : SpecOK Try.prog Γ_rBit := SpecOK.upd o_rIs s_rBit

/-! ### the loop at 5 of rField -/

def lsh_rField_5 : FSh := ⟨[.v false [.k (.n .u64)], .v false [.k (.n .i64)], .v false [.k (.n .i64)], .any, .any, .any, .any, .v false [.k (.n .u64)], .v false [.k (.n .i64)], .any, .any, .any, .any, .any, .any, .any, .any, .any, .any, .any, .any, .any, .any, .any, .any, .any, .any, .any], []⟩
def xsh_rField_5_0 : FSh := ⟨[.any, .any, .any, .any, .any, .any, .any, .v false [.k (.n .u64)], .any, .any, .any, .any, .any, .any, .any, .any, .any, .any, .any, .any, .any, .any, .any, .any, .any, .any, .any, .any], []⟩
def xs_rField_5 : Exs := fun e => match e with
  | .normal => some lsh_rField_5
  | .exit n => (match Nat.beq n 0 with | true => some xsh_rField_5_0 | false => none)
  | .ret => none
def B_rField_5 (x0 : Int) (x1 : Int) (x2 : Int) (x3 : Int) (x4 : Int) : Tr (Ex × List At) :=
 .br 15 (decide (x4 < x2))
 (.br 0 (ok_rBit x0 (IntKind.wrap IntKind.i64 (x1 + x4)))
 (.br 25 (decide ((0 : Int) ≤ x4))
 (.ok (.normal, [(.i (x0)), (.i (x1)), (.i (x2)), (.i (bits BinOp.or IntKind.u64 x3 (IntKind.wrap IntKind.u64 (r_rBit_0 x0 (IntKind.wrap IntKind.i64 (x1 + x4)) * (2 : Int) ^ shiftN IntKind.u64 x4)))), (.i (IntKind.wrap IntKind.i64 (x4 + (1 : Int))))]))
 (.no))
 (.no))
 (.ok (.exit 0, [(.i (x3))]))
def y_rField_5 : Nat → Option Nat := (syOf3 [15, 25] [] [])
def BL_rField_5 (l : List At) : Tr (Ex × List At) := B_rField_5 (aI l 0) (aI l 1) (aI l 2) (aI l 3) (aI l 4)
theorem eB_rField_5 (l : List At) : (exec Try.prog Γ_rBit y_rField_5 noLoops 100 (loopAt Try.f50 5) ⟨mkV lsh_rField_5 l, mkH lsh_rField_5 l⟩).bind (leafL 0 xs_rField_5) = BL_rField_5 l := by kernel_rfl
/- by hand: O_rField_5 (x0 : Int) (x1 : Int) (x2 : Int) (x3 : Int) (x4 : Int) : Tr (Ex × List At); OL_rField_5 (l) := O_rField_5 (aI l 0) (aI l 1) (aI l 2) (aI l 3) (aI l 4); μ_rField_5 : List At → Nat; rd_rField_5 : ∀ l r, (OL_rField_5 l).val = some r → RoundA BL_rField_5 OL_rField_5 μ_rField_5 l r -/

/-! ### the loop at 4 of rWith -/

def lsh_rWith_4 : FSh := ⟨[.v false [.k (.n .u64)], .v false [.k (.n .i64)], .v false [.k (.n .i64)], .v false [.k (.n .u64)], .any, .any, .any, .any, .any, .any, .v false [.k (.n .i64)], .any, .any, .any, .any, .any, .any, .any, .any, .any, .any, .any, .any, .any, .any, .any, .any, .any, .any, .any, .any, .any, .any, .any, .any, .any, .any, .any, .any, .any, .any, .any, .any, .any, .any, .any], []⟩
def xsh_rWith_4_0 : FSh := ⟨[.v false [.k (.n .u64)], .v false [.k (.n .i64)], .v false [.k (.n .i64)], .v false [.k (.n .u64)], .any, .any, .any, .any, .any, .any, .any, .any, .any, .any, .any, .any, .any, .any, .any, .any, .any, .any, .any, .any, .any, .any, .any, .any, .any, .any, .any, .any, .any, .any, .any, .any, .any, .any, .any, .any, .any, .any, .any, .any, .any, .any], []⟩
def xsh_rWith_4_1 : FSh := ⟨[.any, .any, .any, .any, .any, .any, .any, .any, .v false [.k (.n .u64)], .v false [.k (.n .i64)], .any, .any, .any, .any, .any, .any, .any, .any, .any, .any, .any, .any, .any, .any, .any, .any, .any, .any, .any, .any, .any, .any, .any, .any, .any, .any, .any, .any, .any, .any, .any, .any, .any, .any, .any, .any], []⟩
def xs_rWith_4 : Exs := fun e => match e with
  | .normal => some lsh_rWith_4
  | .exit n => (match Nat.beq n 0 with | true => some xsh_rWith_4_0 | false => none)
  | .ret => some xsh_rWith_4_1
def B_rWith_4 (x0 : Int) (x1 : Int) (x2 : Int) (x3 : Int) (x4 : Int) : Tr (Ex × List At) :=
 .br 18 (decide (x4 < (64 : Int)))
 (.br 0 (ok_rBit x3 x4)
 (.br 24 (r_rBit_0 x3 x4 == (1 : Int))
 (.ok (.ret, [(.i ((0 : Int))), (.i ((2 : Int)))]))
 (.ok (.normal, [(.i (x0)), (.i (x1)), (.i (x2)), (.i (x3)), (.i (IntKind.wrap IntKind.i64 (x4 + (1 : Int))))])))
 (.no))
 (.ok (.exit 0, [(.i (x0)), (.i (x1)), (.i (x2)), (.i (x3))]))
def y_rWith_4 : Nat → Option Nat := (syOf3 [18, 24] [] [])
def BL_rWith_4 (l : List At) : Tr (Ex × List At) := B_rWith_4 (aI l 0) (aI l 1) (aI l 2) (aI l 3) (aI l 4)
theorem eB_rWith_4 (l : List At) : (exec Try.prog Γ_rBit y_rWith_4 noLoops 100 (loopAt Try.f45 4) ⟨mkV lsh_rWith_4 l, mkH lsh_rWith_4 l⟩).bind (leafL 0 xs_rWith_4) = BL_rWith_4 l := by kernel_rfl
/- by hand: O_rWith_4 (x0 : Int) (x1 : Int) (x2 : Int) (x3 : Int) (x4 : Int) : Tr (Ex × List At); OL_rWith_4 (l) := O_rWith_4 (aI l 0) (aI l 1) (aI l 2) (aI l 3) (aI l 4); μ_rWith_4 : List At → Nat; rd_rWith_4 : ∀ l r, (OL_rWith_4 l).val = some r → RoundA BL_rWith_4 OL_rWith_4 μ_rWith_4 l r -/

/-! ### the loop at 9 of rWith -/

def lsh_rWith_9 : FSh := ⟨[.v false [.k (.n .u64)], .v false [.k (.n .i64)], .v false [.k (.n .i64)], .v false [.k (.n .u64)], .any, .any, .any, .any, .any, .any, .any, .v false [.k (.n .i64)], .any, .any, .any, .any, .any, .any, .any, .any, .any, .any, .any, .any, .any, .any, .any, .any, .any, .any, .any, .any, .any, .any, .any, .any, .any, .any, .any, .any, .any, .any, .any, .any, .any, .any], []⟩
def xsh_rWith_9_0 : FSh := ⟨[.v false [.k (.n .u64)], .any, .any, .any, .any, .any, .any, .any, .any, .any, .any, .any, .any, .any, .any, .any, .any, .any, .any, .any, .any, .any, .any, .any, .any, .any, .any, .any, .any, .any, .any, .any, .any, .any, .any, .any, .any, .any, .any, .any, .any, .any, .any, .any, .any, .any], []⟩
def xs_rWith_9 : Exs := fun e => match e with
  | .normal => some lsh_rWith_9
  | .exit n => (match Nat.beq n 2 with | true => some xsh_rWith_9_0 | false => none)
  | .ret => none
def B_rWith_9 (x0 : Int) (x1 : Int) (x2 : Int) (x3 : Int) (x4 : Int) : Tr (Ex × List At) :=
 .br 27 (decide (x4 < x2))
 (.br 0 (ok_rBit x3 x4)
 (.br 0 (ok_rBit x0 (IntKind.wrap IntKind.i64 (x1 + x4)))
 (.br 38 (r_rBit_0 x3 x4 != r_rBit_0 x0 (IntKind.wrap IntKind.i64 (x1 + x4)))
 (.br 43 (decide ((0 : Int) ≤ IntKind.wrap IntKind.i64 (x1 + x4)))
 (.ok (.normal, [(.i (bits BinOp.xor IntKind.u64 x0 (IntKind.wrap IntKind.u64 ((1 : Int) * (2 : Int) ^ shiftN IntKind.u64 (IntKind.wrap IntKind.i64 (x1 + x4)))))), (.i (x1)), (.i (x2)), (.i (x3)), (.i (IntKind.wrap IntKind.i64 (x4 + (1 : Int))))]))
 (.no))
 (.ok (.normal, [(.i (x0)), (.i (x1)), (.i (x2)), (.i (x3)), (.i (IntKind.wrap IntKind.i64 (x4 + (1 : Int))))])))
 (.no))
 (.no))
 (.ok (.exit 2, [(.i (x0))]))
def y_rWith_9 : Nat → Option Nat := (syOf3 [27, 38, 43] [] [])
def BL_rWith_9 (l : List At) : Tr (Ex × List At) := B_rWith_9 (aI l 0) (aI l 1) (aI l 2) (aI l 3) (aI l 4)
theorem eB_rWith_9 (l : List At) : (exec Try.prog Γ_rBit y_rWith_9 noLoops 100 (loopAt Try.f45 9) ⟨mkV lsh_rWith_9 l, mkH lsh_rWith_9 l⟩).bind (leafL 0 xs_rWith_9) = BL_rWith_9 l := by kernel_rfl
/- by hand: O_rWith_9 (x0 : Int) (x1 : Int) (x2 : Int) (x3 : Int) (x4 : Int) : Tr (Ex × List At); OL_rWith_9 (l) := O_rWith_9 (aI l 0) (aI l 1) (aI l 2) (aI l 3) (aI l 4); μ_rWith_9 : List At → Nat; rd_rWith_9 : ∀ l r, (OL_rWith_9 l).val = some r → RoundA BL_rWith_9 OL_rWith_9 μ_rWith_9 l r -/

end Go.Proofs.Ytobikddlkoibjaa.G
end

/-
  What the loops of the reference's Field and With come to, by recursion on the rounds that are left.
-/
section
namespace Go.Proofs.Ytobikddlkoibjaa.G
open Go Go.AM Go.Proofs

def fieldL : Nat → Int → Int → Int → Int → Int
  | 0, o, _, _, _ => o
  | m + 1, o, i, w, a => fieldL m (bits BinOp.or IntKind.u64 o (IntKind.wrap IntKind.u64 (r_rBit_0 w (IntKind.wrap IntKind.i64 (a + i)) * (2 : Int) ^ shiftN IntKind.u64 i))) (IntKind.wrap IntKind.i64 (i + 1)) w a

def anyL : Nat → Int → Int → Bool
  | 0, _, _ => false
  | m + 1, v, i => (r_rBit_0 v i == 1) || anyL m v (IntKind.wrap IntKind.i64 (i + 1))

def withL : Nat → Int → Int → Int → Int → Int
  | 0, w, _, _, _ => w
  | m + 1, w, i, a, v => withL m (bif r_rBit_0 v i != r_rBit_0 w (IntKind.wrap IntKind.i64 (a + i)) then bits BinOp.xor IntKind.u64 w (IntKind.wrap IntKind.u64 ((1 : Int) * (2 : Int) ^ shiftN IntKind.u64 (IntKind.wrap IntKind.i64 (a + i)))) else w) (IntKind.wrap IntKind.i64 (i + 1)) a v

theorem okBit {x i : Int} (h : 0 ≤ i) : ok_rBit x i = true := by simp [ok_rBit, h]

def O_rField_5 (x0 x1 x2 x3 x4 : Int) : Tr (Ex × List At) :=
  .br 0 (decide (0 ≤ x4 ∧ x4 ≤ 64 ∧ 0 ≤ x1 ∧ x1 ≤ 64 ∧ x2 ≤ 64)) (.ok (.exit 0, [.i (fieldL (x2 - x4).toNat x3 x4 x0 x1)])) .no
def OL_rField_5 (l : List At) : Tr (Ex × List At) := O_rField_5 (aI l 0) (aI l 1) (aI l 2) (aI l 3) (aI l 4)
def μ_rField_5 (l : List At) : Nat := (aI l 2 - aI l 4).toNat

theorem rd_rField_5 : ∀ l r, (OL_rField_5 l).val = some r → RoundA BL_rField_5 OL_rField_5 μ_rField_5 l r := by
  intro l r h
  obtain ⟨hc, h⟩ := guard_val h
  have := val_ok h
  subst this
  simp only [decide_eq_true_eq] at hc
  obtain ⟨c0, c1, c2, c3, c4⟩ := hc
  by_cases hk : aI l 4 < aI l 2
  · have w1 : IntKind.i64.wrap (aI l 1 + aI l 4) = aI l 1 + aI l 4 := wrap_i64 (by omega) (by omega)
    have w2 : IntKind.i64.wrap (aI l 4 + 1) = aI l 4 + 1 := wrap_i64 (by omega) (by omega)
    have e : (aI l 2 - aI l 4).toNat = (aI l 2 - IntKind.i64.wrap (aI l 4 + 1)).toNat + 1 := by omega
    refine .inl ⟨_, [.i (aI l 0), .i (aI l 1), .i (aI l 2), .i (bits BinOp.or IntKind.u64 (aI l 3) (IntKind.wrap IntKind.u64 (r_rBit_0 (aI l 0) (IntKind.wrap IntKind.i64 (aI l 1 + aI l 4)) * (2 : Int) ^ shiftN IntKind.u64 (aI l 4)))), .i (IntKind.wrap IntKind.i64 (aI l 4 + 1))],
      (br_t (by simpa using hk)).trans ((br_t (okBit (by omega))).trans ((br_t (by simpa using c0)).trans rfl)), AtsEq.refl _, ?_, ?_⟩
    · show (aI l 2 - IntKind.i64.wrap (aI l 4 + 1)).toNat < (aI l 2 - aI l 4).toNat
      omega
    · refine (br_t (g := 0) ?_).trans ?_
      · show decide (0 ≤ IntKind.i64.wrap (aI l 4 + 1) ∧ IntKind.i64.wrap (aI l 4 + 1) ≤ 64 ∧ 0 ≤ aI l 1 ∧ aI l 1 ≤ 64 ∧ aI l 2 ≤ 64) = true
        simp only [decide_eq_true_eq]; omega
      · rw [e]
        rfl
  · refine .inr ⟨.exit 0, _, by simp, br_f (by simpa using hk), rfl, ?_⟩
    have e : (aI l 2 - aI l 4).toNat = 0 := by omega
    rw [e]
    exact AtsEq.refl _

def O_rWith_4 (x0 x1 x2 x3 x4 : Int) : Tr (Ex × List At) :=
  .br 0 (decide (0 ≤ x4 ∧ x4 ≤ 64)) (.br 0 (anyL (64 - x4).toNat x3 x4) (.ok (.ret, [.i 0, .i 2])) (.ok (.exit 0, [.i x0, .i x1, .i x2, .i x3]))) .no
def OL_rWith_4 (l : List At) : Tr (Ex × List At) := O_rWith_4 (aI l 0) (aI l 1) (aI l 2) (aI l 3) (aI l 4)
def μ_rWith_4 (l : List At) : Nat := (64 - aI l 4).toNat

theorem rd_rWith_4 : ∀ l r, (OL_rWith_4 l).val = some r → RoundS BL_rWith_4 OL_rWith_4 μ_rWith_4 l r := by
  intro l r h
  obtain ⟨hc, h⟩ := guard_val h
  simp only [decide_eq_true_eq] at hc
  obtain ⟨c0, c1⟩ := hc
  unfold RoundS BL_rWith_4 B_rWith_4
  refine brD (fun hk => ?_) (fun hk => ?_)
  · have w2 : IntKind.i64.wrap (aI l 4 + 1) = aI l 4 + 1 := wrap_i64 (by omega) (by omega)
    have e : (64 - aI l 4).toNat = (64 - (aI l 4 + 1)).toNat + 1 := by omega
    rw [e, anyL, w2] at h
    rw [w2]
    refine brT (okBit c0) (brC (fun hb => ?_) (fun hb => ?_))
    · rw [hb, Bool.true_or] at h
      have := val_ok h
      subst this
      exact out_ (by simp) rfl (AtsEq.refl _)
    · rw [hb, Bool.false_or] at h
      refine on_ _ r (AtsEq.refl _) ?_ ?_ rfl (AtsEq.refl _)
      · show (64 - (aI l 4 + 1)).toNat < (64 - aI l 4).toNat
        omega
      · refine (br_t (g := 0) ?_).trans h
        show decide (0 ≤ aI l 4 + 1 ∧ aI l 4 + 1 ≤ 64) = true
        simp only [decide_eq_true_eq]; omega
  · have e : (64 - aI l 4).toNat = 0 := by omega
    rw [e] at h
    have := val_ok h
    subst this
    exact out_ (by simp) rfl (AtsEq.refl _)

def O_rWith_9 (x0 x1 x2 x3 x4 : Int) : Tr (Ex × List At) :=
  .br 0 (decide (0 ≤ x4 ∧ x4 ≤ 64 ∧ 0 ≤ x1 ∧ x1 ≤ 64 ∧ x2 ≤ 64)) (.ok (.exit 2, [.i (withL (x2 - x4).toNat x0 x4 x1 x3)])) .no
def OL_rWith_9 (l : List At) : Tr (Ex × List At) := O_rWith_9 (aI l 0) (aI l 1) (aI l 2) (aI l 3) (aI l 4)
def μ_rWith_9 (l : List At) : Nat := (aI l 2 - aI l 4).toNat

theorem rd_rWith_9 : ∀ l r, (OL_rWith_9 l).val = some r → RoundA BL_rWith_9 OL_rWith_9 μ_rWith_9 l r := by
  intro l r h
  obtain ⟨hc, h⟩ := guard_val h
  have := val_ok h
  subst this
  simp only [decide_eq_true_eq] at hc
  obtain ⟨c0, c1, c2, c3, c4⟩ := hc
  by_cases hk : aI l 4 < aI l 2
  · have w1 : IntKind.i64.wrap (aI l 1 + aI l 4) = aI l 1 + aI l 4 := wrap_i64 (by omega) (by omega)
    have w2 : IntKind.i64.wrap (aI l 4 + 1) = aI l 4 + 1 := wrap_i64 (by omega) (by omega)
    have e : (aI l 2 - aI l 4).toNat = (aI l 2 - IntKind.i64.wrap (aI l 4 + 1)).toNat + 1 := by omega
    have h6 : 0 ≤ IntKind.i64.wrap (aI l 1 + aI l 4) := by omega
    refine .inl ⟨[.i (bif r_rBit_0 (aI l 3) (aI l 4) != r_rBit_0 (aI l 0) (IntKind.wrap IntKind.i64 (aI l 1 + aI l 4)) then bits BinOp.xor IntKind.u64 (aI l 0) (IntKind.wrap IntKind.u64 ((1 : Int) * (2 : Int) ^ shiftN IntKind.u64 (IntKind.wrap IntKind.i64 (aI l 1 + aI l 4)))) else aI l 0), .i (aI l 1), .i (aI l 2), .i (aI l 3), .i (IntKind.wrap IntKind.i64 (aI l 4 + 1))], _, ?_, AtsEq.refl _, ?_, ?_⟩
    · refine (br_t (by simpa using hk)).trans ((br_t (okBit c0)).trans ((br_t (okBit h6)).trans ?_))
      cases hb : (r_rBit_0 (aI l 3) (aI l 4) != r_rBit_0 (aI l 0) (IntKind.wrap IntKind.i64 (aI l 1 + aI l 4))) with
      | true => exact (br_t (g := 38) rfl).trans ((br_t (by simpa using h6)).trans rfl)
      | false => exact (br_f (g := 38) rfl).trans rfl
    · show (aI l 2 - IntKind.i64.wrap (aI l 4 + 1)).toNat < (aI l 2 - aI l 4).toNat
      omega
    · refine (br_t (g := 0) ?_).trans ?_
      · show decide (0 ≤ IntKind.i64.wrap (aI l 4 + 1) ∧ IntKind.i64.wrap (aI l 4 + 1) ≤ 64 ∧ 0 ≤ aI l 1 ∧ aI l 1 ≤ 64 ∧ aI l 2 ≤ 64) = true
        simp only [decide_eq_true_eq]; omega
      · rw [e]
        rfl
  · refine .inr ⟨.exit 2, _, by simp, br_f (by simpa using hk), rfl, ?_⟩
    have e : (aI l 2 - aI l 4).toNat = 0 := by omega
    rw [e]
    exact AtsEq.refl _
end Go.Proofs.Ytobikddlkoibjaa.G
end

/-
  What functions of the seat compute, printed by a program from the explorer.
-/
section
namespace Go.Proofs.Ytobikddlkoibjaa.G
open Go Go.AM Go.Proofs
theorem f_rField_5 : LoopF Try.prog 0 (loopAt Try.f50 5) (loopFn 0 lsh_rField_5 xs_rField_5 OL_rField_5) :=
  loop_loc (sy := y_rField_5) (fuel := 100) (Lp := noLoops) o_rBit mixed (loopsOK_at (noLoops_ok _) 5) rfl eB_rField_5 rd_rField_5
def Lp_rField_5 : Loops := Loops.set noLoops 5 (loopFn 0 lsh_rField_5 xs_rField_5 OL_rField_5)
theorem lk_rField_5 : LoopsFn Try.prog 0 Lp_rField_5 Try.f50 := loopsFn_set (noLoops_ok _) (by kernel_rfl) f_rField_5

theorem f_rWith_4 : LoopF Try.prog 0 (loopAt Try.f45 4) (loopFn 0 lsh_rWith_4 xs_rWith_4 OL_rWith_4) :=
  loop_sat (sy := y_rWith_4) (fuel := 100) (Lp := noLoops) o_rBit mixed (loopsOK_at (noLoops_ok _) 4) rfl eB_rWith_4 rd_rWith_4
def Lp_rWith_4 : Loops := Loops.set noLoops 4 (loopFn 0 lsh_rWith_4 xs_rWith_4 OL_rWith_4)
theorem lk_rWith_4 : LoopsFn Try.prog 0 Lp_rWith_4 Try.f45 := loopsFn_set (noLoops_ok _) (by kernel_rfl) f_rWith_4

theorem f_rWith_9 : LoopF Try.prog 0 (loopAt Try.f45 9) (loopFn 0 lsh_rWith_9 xs_rWith_9 OL_rWith_9) :=
  loop_loc (sy := y_rWith_9) (fuel := 100) (Lp := noLoops) o_rBit mixed (loopsOK_at (noLoops_ok _) 9) rfl eB_rWith_9 rd_rWith_9
def Lp_rWith_9 : Loops := Loops.set noLoops 9 (loopFn 0 lsh_rWith_9 xs_rWith_9 OL_rWith_9)
theorem lk_rWith_9 : LoopsFn Try.prog 0 Lp_rWith_9 Try.f45 := loopsFn_set (noLoops_ok _) (by kernel_rfl) f_rWith_9

end Go.Proofs.Ytobikddlkoibjaa.G
end

/-
  Both loops of the reference's With.
-/
section
namespace Go.Proofs.Ytobikddlkoibjaa.G
open Go Go.AM Go.Proofs
def Lp_rWith : Loops := Loops.set Lp_rWith_4 9 (loopFn 0 lsh_rWith_9 xs_rWith_9 OL_rWith_9)
theorem lk_rWith : LoopsFn Try.prog 0 Lp_rWith Try.f45 := loopsFn_set lk_rWith_4 (by kernel_rfl) f_rWith_9
end Go.Proofs.Ytobikddlkoibjaa.G
end

/-
  What functions of the seat compute, printed by a program from the explorer.
-/
section
namespace Go.Proofs.Ytobikddlkoibjaa.G
open Go Go.AM Go.Proofs
/-! ### rField -/

def ish_rField : FSh := ⟨[.v false [.k (.n .u64)], .v false [.k (.n .i64)], .v false [.k (.n .i64)]], []⟩
def osh_rField : FSh := ⟨[.v false [.k (.n .u64)]], []⟩
def T_rField (x0 : Int) (x1 : Int) (x2 : Int) : Tr (List At) :=
 .br 12 (!r_rIs_0 x1 x2)
 (.ok [(.i ((0 : Int)))])
 (.br 0 (decide ((0 : Int) ≤ (0 : Int) ∧ (0 : Int) ≤ (64 : Int) ∧ (0 : Int) ≤ x1 ∧ x1 ≤ (64 : Int) ∧ x2 ≤ (64 : Int)))
 (.ok [(.i (fieldL (Int.toNat (x2 - (0 : Int))) (0 : Int) (0 : Int) x0 x1))])
 (.no))
def y_rField : Nat → Option Nat := (syOf3 [12] [] [])
def TL_rField (l : List At) : Tr (List At) := T_rField (aI l 0) (aI l 1) (aI l 2)
theorem e_rField (l : List At) : (call Try.prog Γ_rBit y_rField Lp_rField_5 100 Try.f50 (mkV ish_rField l) (mkH ish_rField l)).bind (leafO 0 osh_rField) = TL_rField l := by kernel_rfl
def r_rField_0 (x0 : Int) (x1 : Int) (x2 : Int) : Int :=
  bif !r_rIs_0 x1 x2 then ((0 : Int))
  else bif decide ((0 : Int) ≤ (0 : Int) ∧ (0 : Int) ≤ (64 : Int) ∧ (0 : Int) ≤ x1 ∧ x1 ≤ (64 : Int) ∧ x2 ≤ (64 : Int)) then (fieldL (Int.toNat (x2 - (0 : Int))) (0 : Int) (0 : Int) x0 x1)
  else 0
def ok_rField (x0 : Int) (x1 : Int) (x2 : Int) : Bool :=
  bif !r_rIs_0 x1 x2 then (true)
  else bif decide ((0 : Int) ≤ (0 : Int) ∧ (0 : Int) ≤ (64 : Int) ∧ (0 : Int) ≤ x1 ∧ x1 ≤ (64 : Int) ∧ x2 ≤ (64 : Int)) then (true)
  else false
def F_rField : List At → Tr (List At) := fun l => .br 0 (ok_rField (aI l 0) (aI l 1) (aI l 2)) (.ok [.i (r_rField_0 (aI l 0) (aI l 1) (aI l 2))]) .no
theorem s_rField : SpecF Try.prog 50 (.pure (locP ish_rField osh_rField F_rField)) :=
  spec_locP (sy := y_rField) (fuel := 100) (Lp := Lp_rField_5) o_rBit mixed ⟨Try.func50, by kernel_rfl, by kernel_rfl⟩ ish_rField osh_rField rfl lk_rField_5 (hT_merged [.i] e_rField (fun l => by kernel_rfl) (fun l => by kernel_rfl))
def Γ_rField : Specs := upd Γ_rBit 50 (.pure (locP ish_rField osh_rField F_rField))
theorem o_rField : SpecOK Try.prog Γ_rField := SpecOK.upd o_rBit s_rField

/-! ### rWith -/

def ish_rWith : FSh := ⟨[.v false [.k (.n .u64)], .v false [.k (.n .i64)], .v false [.k (.n .i64)], .v false [.k (.n .u64)]], []⟩
def osh_rWith : FSh := ⟨[.tup [(false, [.k (.n .u64)]), (false, [.k (.n .i64)])]], []⟩
def T_rWith (x0 : Int) (x1 : Int) (x2 : Int) (x3 : Int) : Tr (List At) :=
 .br 15 (!r_rIs_0 x1 x2)
 (.ok [(.i ((0 : Int))), (.i ((1 : Int)))])
 (.br 0 (decide ((0 : Int) ≤ x2 ∧ x2 ≤ (64 : Int)))
 (.br 0 (anyL (Int.toNat ((64 : Int) - x2)) x3 x2)
 (.ok [(.i ((0 : Int))), (.i ((2 : Int)))])
 (.br 0 (decide ((0 : Int) ≤ (0 : Int) ∧ (0 : Int) ≤ (64 : Int) ∧ (0 : Int) ≤ x1 ∧ x1 ≤ (64 : Int) ∧ x2 ≤ (64 : Int)))
 (.ok [(.i (withL (Int.toNat (x2 - (0 : Int))) x0 (0 : Int) x1 x3)), (.i ((0 : Int)))])
 (.no)))
 (.no))
def y_rWith : Nat → Option Nat := (syOf3 [15] [] [])
def TL_rWith (l : List At) : Tr (List At) := T_rWith (aI l 0) (aI l 1) (aI l 2) (aI l 3)
theorem e_rWith (l : List At) : (call Try.prog Γ_rField y_rWith Lp_rWith 100 Try.f45 (mkV ish_rWith l) (mkH ish_rWith l)).bind (leafO 0 osh_rWith) = TL_rWith l := by kernel_rfl
def r_rWith_0 (x0 : Int) (x1 : Int) (x2 : Int) (x3 : Int) : Int :=
  bif !r_rIs_0 x1 x2 then ((0 : Int))
  else bif decide ((0 : Int) ≤ x2 ∧ x2 ≤ (64 : Int)) then (bif anyL (Int.toNat ((64 : Int) - x2)) x3 x2 then ((0 : Int))
  else bif decide ((0 : Int) ≤ (0 : Int) ∧ (0 : Int) ≤ (64 : Int) ∧ (0 : Int) ≤ x1 ∧ x1 ≤ (64 : Int) ∧ x2 ≤ (64 : Int)) then (withL (Int.toNat (x2 - (0 : Int))) x0 (0 : Int) x1 x3)
  else 0)
  else 0
def r_rWith_1 (x0 : Int) (x1 : Int) (x2 : Int) (x3 : Int) : Int :=
  bif !r_rIs_0 x1 x2 then ((1 : Int))
  else bif decide ((0 : Int) ≤ x2 ∧ x2 ≤ (64 : Int)) then (bif anyL (Int.toNat ((64 : Int) - x2)) x3 x2 then ((2 : Int))
  else bif decide ((0 : Int) ≤ (0 : Int) ∧ (0 : Int) ≤ (64 : Int) ∧ (0 : Int) ≤ x1 ∧ x1 ≤ (64 : Int) ∧ x2 ≤ (64 : Int)) then ((0 : Int))
  else 0)
  else 0
def ok_rWith (x0 : Int) (x1 : Int) (x2 : Int) (x3 : Int) : Bool :=
  bif !r_rIs_0 x1 x2 then (true)
  else bif decide ((0 : Int) ≤ x2 ∧ x2 ≤ (64 : Int)) then (bif anyL (Int.toNat ((64 : Int) - x2)) x3 x2 then (true)
  else bif decide ((0 : Int) ≤ (0 : Int) ∧ (0 : Int) ≤ (64 : Int) ∧ (0 : Int) ≤ x1 ∧ x1 ≤ (64 : Int) ∧ x2 ≤ (64 : Int)) then (true)
  else false)
  else false
def F_rWith : List At → Tr (List At) := fun l => .br 0 (ok_rWith (aI l 0) (aI l 1) (aI l 2) (aI l 3)) (.ok [.i (r_rWith_0 (aI l 0) (aI l 1) (aI l 2) (aI l 3)), .i (r_rWith_1 (aI l 0) (aI l 1) (aI l 2) (aI l 3))]) .no
theorem s_rWith : SpecF Try.prog 45 (.pure (locP ish_rWith osh_rWith F_rWith)) :=
  spec_locP (sy := y_rWith) (fuel := 100) (Lp := Lp_rWith) o_rField mixed ⟨Try.func45, by kernel_rfl, by kernel_rfl⟩ ish_rWith osh_rWith rfl lk_rWith (hT_merged [.i, .i] e_rWith (fun l => by kernel_rfl) (fun l => by kernel_rfl))
def Γ_rWith : Specs := upd Γ_rField 45 (.pure (locP ish_rWith osh_rWith F_rWith))
theorem o_rWith : SpecOK Try.prog Γ_rWith := SpecOK.upd o_rField s_rWith

end Go.Proofs.Ytobikddlkoibjaa.G
end

/-
  The reference's fields of a word, in plain numbers.
-/
section
namespace Go.Proofs.Ytobikddlkoibjaa.G
open Go Go.AM Go.Proofs

theorem rBit_eq {n i : Nat} (hn : n < 18446744073709551616) (hi : i ≤ 64) : r_rBit_0 (n : Int) (i : Int) = ((n.testBit i).toNat : Int) := by
  have h0 : (0 : Int) ≤ i := by omega
  have h1 : n / 2 ^ i < 18446744073709551616 := Nat.lt_of_le_of_lt (Nat.div_le_self _ _) hn
  unfold r_rBit_0
  simp only [h0, decide_true, cond_true, shift_u64 hi, fdiv_pow]
  have e : bits BinOp.and IntKind.u64 ((n / 2 ^ i : Nat) : Int) 1 = (((n / 2 ^ i) &&& 1 : Nat) : Int) := u64_and_nat _ 1 h1 (by decide)
  rw [e, Nat.and_one_is_mod, Nat.toNat_testBit]

theorem wrapN {i : Nat} (h : i ≤ 200) : IntKind.i64.wrap ((i : Int) + 1) = ((i + 1 : Nat) : Int) := by
  rw [wrap_i64 (by omega) (by omega)]; rfl

theorem wrapA {a i : Nat} (h : a + i ≤ 200) : IntKind.i64.wrap ((a : Int) + i) = ((a + i : Nat) : Int) := by
  rw [wrap_i64 (by omega) (by omega)]; rfl

theorem bool_mul_lt {b : Bool} {i : Nat} (hi : i < 64) : b.toNat * 2 ^ i < 18446744073709551616 := by
  have h1 : (2 : Nat) ^ i < 2 ^ 64 := Nat.pow_lt_pow_right (by decide) hi
  have h2 : (2 : Nat) ^ 64 = 18446744073709551616 := by decide
  cases b <;> simp <;> omega

theorem bool_mul_bit (b : Bool) (i j : Nat) : (b.toNat * 2 ^ i).testBit j = (decide (i = j) && b) := by
  cases b
  · simp
  · simp [Nat.testBit_two_pow]

theorem fieldL_bits {n a : Nat} (hn : n < 18446744073709551616) : ∀ (m o i : Nat), o < 18446744073709551616 → a + i + m ≤ 64 →
    ∃ r : Nat, fieldL m (o : Int) (i : Int) (n : Int) (a : Int) = r ∧ r < 18446744073709551616 ∧ ∀ j, r.testBit j = (o.testBit j || (decide (i ≤ j ∧ j < i + m) && n.testBit (a + j)))
  | 0, o, i, ho, _ => ⟨o, rfl, ho, fun j => by
    have : ¬ (i ≤ j ∧ j < i + 0) := by omega
    rw [decide_eq_false this]; simp⟩
  | m + 1, o, i, ho, h => by
    rw [fieldL, wrapA (by omega), rBit_eq hn (by omega), shift_u64 (by omega), wrapN (by omega)]
    have hb := bool_mul_lt (b := n.testBit (a + i)) (i := i) (by omega)
    have e : ((n.testBit (a + i)).toNat : Int) * 2 ^ i = (((n.testBit (a + i)).toNat * 2 ^ i : Nat) : Int) := by simp
    rw [e, wrap_u64_nat hb, bits_or_u64_nat _ _ ho hb]
    obtain ⟨r, h1, h2, h3⟩ := fieldL_bits (a := a) hn m (o ||| ((n.testBit (a + i)).toNat * 2 ^ i)) (i + 1) (Nat.or_lt_two_pow (n := 64) ho hb) (by omega)
    refine ⟨r, h1, h2, fun j => ?_⟩
    rw [h3, Nat.testBit_or, bool_mul_bit]
    by_cases hj : i = j
    · subst hj
      have n1 : ¬ (i + 1 ≤ i ∧ i < i + 1 + m) := by omega
      have n2 : i ≤ i ∧ i < i + (m + 1) := by omega
      simp [n1, n2]
    · have e2 : (i + 1 ≤ j ∧ j < i + 1 + m) = (i ≤ j ∧ j < i + (m + 1)) := by apply propext; omega
      simp [hj, e2]

theorem withL_bits {v a : Nat} (hv : v < 18446744073709551616) : ∀ (m w i : Nat), w < 18446744073709551616 → a + i + m ≤ 64 →
    ∃ r : Nat, withL m (w : Int) (i : Int) (a : Int) (v : Int) = r ∧ r < 18446744073709551616 ∧ ∀ j, r.testBit j = if a + i ≤ j ∧ j < a + i + m then v.testBit (j - a) else w.testBit j
  | 0, w, i, hw, _ => ⟨w, rfl, hw, fun j => by
    have : ¬ (a + i ≤ j ∧ j < a + i + 0) := by omega
    rw [if_neg this]⟩
  | m + 1, w, i, hw, h => by
    rw [withL, wrapA (by omega), rBit_eq hv (by omega), rBit_eq hw (by omega), shift_u64 (by omega), wrapN (by omega)]
    have hp : (2 : Nat) ^ (a + i) < 18446744073709551616 := by
      have h1 : (2 : Nat) ^ (a + i) < 2 ^ 64 := Nat.pow_lt_pow_right (by decide) (by omega)
      have h2 : (2 : Nat) ^ 64 = 18446744073709551616 := by decide
      omega
    have e : (1 : Int) * 2 ^ (a + i) = ((2 ^ (a + i) : Nat) : Int) := by simp
    rw [e, wrap_u64_nat hp, bits_xor_u64_nat _ _ hw hp]
    have hne : (((v.testBit i).toNat : Int) != ((w.testBit (a + i)).toNat : Int)) = (v.testBit i != w.testBit (a + i)) := by
      cases v.testBit i <;> cases w.testBit (a + i) <;> rfl
    rw [hne]
    have key : ∃ w' : Nat, (bif v.testBit i != w.testBit (a + i) then ((w ^^^ 2 ^ (a + i) : Nat) : Int) else (w : Int)) = (w' : Int) ∧ w' < 18446744073709551616 ∧ ∀ j, w'.testBit j = if j = a + i then v.testBit i else w.testBit j := by
      cases hb : (v.testBit i != w.testBit (a + i)) with
      | false =>
        refine ⟨w, rfl, hw, fun j => ?_⟩
        by_cases hj : j = a + i
        · subst hj
          simp at hb
          simp [hb]
        · simp [hj]
      | true =>
        refine ⟨w ^^^ 2 ^ (a + i), rfl, Nat.xor_lt_two_pow (n := 64) hw hp, fun j => ?_⟩
        rw [Nat.testBit_xor, Nat.testBit_two_pow]
        by_cases hj : j = a + i
        · subst hj
          revert hb
          cases v.testBit i <;> cases w.testBit (a + i) <;> simp
        · have : ¬ a + i = j := by omega
          simp [hj, this]
    obtain ⟨w', k1, k2, k3⟩ := key
    rw [k1]
    obtain ⟨r, h1, h2, h3⟩ := withL_bits (a := a) hv m w' (i + 1) k2 (by omega)
    refine ⟨r, h1, h2, fun j => ?_⟩
    rw [h3, k3]
    by_cases hj : j = a + i
    · subst hj
      rw [if_neg (by omega), if_pos rfl, if_pos (by omega)]
      congr 1
      omega
    · by_cases h4 : a + (i + 1) ≤ j ∧ j < a + (i + 1) + m
      · rw [if_pos h4, if_pos (by omega)]
      · rw [if_neg h4, if_neg hj, if_neg (by omega)]

theorem anyL_bits {v : Nat} (hv : v < 18446744073709551616) : ∀ (m i : Nat), i + m ≤ 64 → (anyL m (v : Int) (i : Int) = false ↔ ∀ j, i ≤ j → j < i + m → v.testBit j = false)
  | 0, i, _ => by simp [anyL]; intro j; omega
  | m + 1, i, h => by
    rw [anyL, rBit_eq hv (by omega), wrapN (by omega), Bool.or_eq_false_iff, anyL_bits hv m (i + 1) (by omega)]
    have e : (((v.testBit i).toNat : Int) == 1) = v.testBit i := by cases v.testBit i <;> rfl
    rw [e]
    constructor
    · rintro ⟨h1, h2⟩ j h3 h4
      by_cases hj : j = i
      · subst hj; exact h1
      · exact h2 j (by omega) (by omega)
    · intro h1
      exact ⟨h1 i (Nat.le_refl _) (by omega), fun j h2 h3 => h1 j (by omega) (by omega)⟩

theorem rIs_yes {a d : Nat} (hd : 1 ≤ d) (h : a + d ≤ 64) : r_rIs_0 (a : Int) (d : Int) = true := by
  unfold r_rIs_0
  rw [wrapA (by omega), decide_eq_true (by omega), decide_eq_true (by omega), decide_eq_true (by omega), decide_eq_true (by omega), decide_eq_true (by omega)]
  rfl

theorem rField_eq {n a d : Nat} (hn : n < 18446744073709551616) (hd : 1 ≤ d) (h : a + d ≤ 64) : ok_rField (n : Int) (a : Int) (d : Int) = true ∧ r_rField_0 (n : Int) (a : Int) (d : Int) = (fieldN n a d : Nat) := by
  have c : decide ((0 : Int) ≤ (0 : Int) ∧ (0 : Int) ≤ (64 : Int) ∧ (0 : Int) ≤ (a : Int) ∧ (a : Int) ≤ (64 : Int) ∧ (d : Int) ≤ (64 : Int)) = true := decide_eq_true (by omega)
  refine ⟨by unfold ok_rField; rw [rIs_yes hd h, c]; rfl, ?_⟩
  unfold r_rField_0
  rw [rIs_yes hd h, c, Bool.not_true, cond_false, cond_true, show ((d : Int) - 0).toNat = d by omega]
  obtain ⟨r, h1, _, h3⟩ := fieldL_bits (a := a) hn d 0 0 (by omega) (by omega)
  refine h1.trans ?_
  congr 1
  apply Nat.eq_of_testBit_eq
  intro j
  rw [h3, fieldN_bit]
  by_cases hj : j < d <;> simp [hj]

theorem rWith_eq {n a d v : Nat} (hn : n < 18446744073709551616) (hd : 1 ≤ d) (h : a + d ≤ 64) (hv : v < 2 ^ d) :
    ok_rWith (n : Int) (a : Int) (d : Int) (v : Int) = true ∧ r_rWith_0 (n : Int) (a : Int) (d : Int) (v : Int) = (withN n a d v : Nat) ∧ r_rWith_1 (n : Int) (a : Int) (d : Int) (v : Int) = 0 := by
  have hv64 : v < 18446744073709551616 := Nat.lt_of_lt_of_le hv (by
    have : (2 : Nat) ^ d ≤ 2 ^ 64 := Nat.pow_le_pow_right (by decide) (by omega)
    simpa using this)
  have c1 : decide ((0 : Int) ≤ (d : Int) ∧ (d : Int) ≤ (64 : Int)) = true := decide_eq_true (by omega)
  have c2 : decide ((0 : Int) ≤ (0 : Int) ∧ (0 : Int) ≤ (64 : Int) ∧ (0 : Int) ≤ (a : Int) ∧ (a : Int) ≤ (64 : Int) ∧ (d : Int) ≤ (64 : Int)) = true := decide_eq_true (by omega)
  have ha : anyL (Int.toNat ((64 : Int) - (d : Int))) (v : Int) (d : Int) = false := by
    rw [show Int.toNat ((64 : Int) - (d : Int)) = 64 - d by omega]
    exact (anyL_bits hv64 (64 - d) d (by omega)).2 fun j hj _ => Nat.testBit_lt_two_pow (Nat.lt_of_lt_of_le hv (Nat.pow_le_pow_right (by decide) hj))
  refine ⟨by unfold ok_rWith; rw [rIs_yes hd h, c1, ha, c2]; rfl, ?_, by unfold r_rWith_1; rw [rIs_yes hd h, c1, ha, c2]; rfl⟩
  unfold r_rWith_0
  rw [rIs_yes hd h, c1, ha, c2, Bool.not_true, cond_false, cond_true, cond_false, cond_true, show ((d : Int) - 0).toNat = d by omega]
  obtain ⟨r, h1, _, h3⟩ := withL_bits (a := a) hv64 d n 0 hn (by omega)
  refine h1.trans ?_
  congr 1
  apply Nat.eq_of_testBit_eq
  intro j
  rw [h3, withN_bit hn hv h]
  simp

/-- Into a word that has nothing there. -/
theorem withN_put {n a d v : Nat} (hn : n < 2 ^ a) (h : a + d ≤ 64) (hv : v < 2 ^ d) : withN n a d v = n + v * 2 ^ a := by
  have hn64 : n < 18446744073709551616 := Nat.lt_of_lt_of_le hn (by
    have : (2 : Nat) ^ a ≤ 2 ^ 64 := Nat.pow_le_pow_right (by decide) (by omega)
    simpa using this)
  rw [← or_add hn]
  apply Nat.eq_of_testBit_eq
  intro j
  rw [withN_bit hn64 hv h, Nat.testBit_or, mul_pow_bit]
  by_cases h1 : a ≤ j
  · have h2 : n.testBit j = false := Nat.testBit_lt_two_pow (Nat.lt_of_lt_of_le hn (Nat.pow_le_pow_right (by decide) h1))
    by_cases h3 : j < a + d
    · simp [h1, h2, h3]
    · have h4 : v.testBit (j - a) = false := Nat.testBit_lt_two_pow (Nat.lt_of_lt_of_le hv (Nat.pow_le_pow_right (by decide) (by omega)))
      simp [h1, h2, h3, h4]
  · simp [h1]

theorem rWith_put {n a d v : Nat} (hn : n < 2 ^ a) (hd : 1 ≤ d) (h : a + d ≤ 64) (hv : v < 2 ^ d) :
    ok_rWith (n : Int) (a : Int) (d : Int) (v : Int) = true ∧ r_rWith_0 (n : Int) (a : Int) (d : Int) (v : Int) = ((n + v * 2 ^ a : Nat) : Int) ∧ r_rWith_1 (n : Int) (a : Int) (d : Int) (v : Int) = 0 := by
  have hn64 : n < 18446744073709551616 := Nat.lt_of_lt_of_le hn (by
    have : (2 : Nat) ^ a ≤ 2 ^ 64 := Nat.pow_le_pow_right (by decide) (by omega)
    simpa using this)
  rw [← withN_put hn h hv]
  exact rWith_eq hn64 hd h hv
end Go.Proofs.Ytobikddlkoibjaa.G
end

/-
  What functions of the seat compute, printed by a program from the explorer.
-/
section
namespace Go.Proofs.Ytobikddlkoibjaa.G
open Go Go.AM Go.Proofs
/-! ### rWord -/

def ish_rWord : FSh := ⟨[.v true [.k (.n .i64), .k (.n .i64), .k (.n .i64)]], []⟩
def osh_rWord : FSh := ⟨[.tup [(false, [.k (.n .u64)]), (false, [.k (.n .i64)])]], []⟩
def T_rWord (x0 : Int) (x1 : Int) (x2 : Int) : Tr (List At) :=
 .br 9 (decide (x0 < (0 : Int)))
 (.ok [(.i ((0 : Int))), (.i ((1 : Int)))])
 (.br 14 (decide (x0 > (4 : Int)))
 (.ok [(.i ((0 : Int))), (.i ((1 : Int)))])
 (.br 19 (decide (x1 < (0 : Int)))
 (.ok [(.i ((0 : Int))), (.i ((1 : Int)))])
 (.br 24 (decide (x1 > (16777215 : Int)))
 (.ok [(.i ((0 : Int))), (.i ((1 : Int)))])
 (.br 29 (decide (x2 < (0 : Int)))
 (.ok [(.i ((0 : Int))), (.i ((1 : Int)))])
 (.br 34 (decide (x2 ≥ (1024 : Int)))
 (.ok [(.i ((0 : Int))), (.i ((1 : Int)))])
 (.br 38 (x0 == (0 : Int))
 (.br 43 (x2 != (0 : Int))
 (.ok [(.i ((0 : Int))), (.i ((1 : Int)))])
 (.br 0 (ok_rWith (0 : Int) (0 : Int) (4 : Int) (IntKind.wrap IntKind.u64 x0))
 (.br 0 (ok_rWith (r_rWith_0 (0 : Int) (0 : Int) (4 : Int) (IntKind.wrap IntKind.u64 x0)) (4 : Int) (24 : Int) (IntKind.wrap IntKind.u64 x1))
 (.br 0 (ok_rWith (r_rWith_0 (r_rWith_0 (0 : Int) (0 : Int) (4 : Int) (IntKind.wrap IntKind.u64 x0)) (4 : Int) (24 : Int) (IntKind.wrap IntKind.u64 x1)) (28 : Int) (16 : Int) (IntKind.wrap IntKind.u64 x2))
 (.ok [(.i (r_rWith_0 (r_rWith_0 (r_rWith_0 (0 : Int) (0 : Int) (4 : Int) (IntKind.wrap IntKind.u64 x0)) (4 : Int) (24 : Int) (IntKind.wrap IntKind.u64 x1)) (28 : Int) (16 : Int) (IntKind.wrap IntKind.u64 x2))), (.i (r_rWith_1 (r_rWith_0 (r_rWith_0 (0 : Int) (0 : Int) (4 : Int) (IntKind.wrap IntKind.u64 x0)) (4 : Int) (24 : Int) (IntKind.wrap IntKind.u64 x1)) (28 : Int) (16 : Int) (IntKind.wrap IntKind.u64 x2)))])
 (.no))
 (.no))
 (.no)))
 (.br 0 (ok_rWith (0 : Int) (0 : Int) (4 : Int) (IntKind.wrap IntKind.u64 x0))
 (.br 0 (ok_rWith (r_rWith_0 (0 : Int) (0 : Int) (4 : Int) (IntKind.wrap IntKind.u64 x0)) (4 : Int) (24 : Int) (IntKind.wrap IntKind.u64 x1))
 (.br 0 (ok_rWith (r_rWith_0 (r_rWith_0 (0 : Int) (0 : Int) (4 : Int) (IntKind.wrap IntKind.u64 x0)) (4 : Int) (24 : Int) (IntKind.wrap IntKind.u64 x1)) (28 : Int) (16 : Int) (IntKind.wrap IntKind.u64 x2))
 (.ok [(.i (r_rWith_0 (r_rWith_0 (r_rWith_0 (0 : Int) (0 : Int) (4 : Int) (IntKind.wrap IntKind.u64 x0)) (4 : Int) (24 : Int) (IntKind.wrap IntKind.u64 x1)) (28 : Int) (16 : Int) (IntKind.wrap IntKind.u64 x2))), (.i (r_rWith_1 (r_rWith_0 (r_rWith_0 (0 : Int) (0 : Int) (4 : Int) (IntKind.wrap IntKind.u64 x0)) (4 : Int) (24 : Int) (IntKind.wrap IntKind.u64 x1)) (28 : Int) (16 : Int) (IntKind.wrap IntKind.u64 x2)))])
 (.no))
 (.no))
 (.no))))))))
def y_rWord : Nat → Option Nat := (syOf3 [9, 14, 19, 24, 29, 34, 38, 43] [] [])
def TL_rWord (l : List At) : Tr (List At) := T_rWord (aI l 0) (aI l 1) (aI l 2)
theorem e_rWord (l : List At) : (call Try.prog Γ_rWith y_rWord noLoops 100 Try.f29 (mkV ish_rWord l) (mkH ish_rWord l)).bind (leafO 0 osh_rWord) = TL_rWord l := by kernel_rfl
def F_rWord : List At → Tr (List At) := TL_rWord
theorem s_rWord : SpecF Try.prog 29 (.pure (locP ish_rWord osh_rWord F_rWord)) :=
  spec_locP (sy := y_rWord) (fuel := 100) (Lp := noLoops) o_rWith mixed ⟨Try.func29, by kernel_rfl, by kernel_rfl⟩ ish_rWord osh_rWord rfl (noLoops_ok _) (hT_ways e_rWord)
def Γ_rWord : Specs := upd Γ_rWith 29 (.pure (locP ish_rWord osh_rWord F_rWord))
theorem o_rWord : SpecOK Try.prog Γ_rWord := SpecOK.upd o_rWith s_rWord

end Go.Proofs.Ytobikddlkoibjaa.G
end

/-
  Sums and seals, in plain numbers.
-/
section
namespace Go.Proofs.Ytobikddlkoibjaa.G
open Go Go.AM Go.Proofs

theorem crcMore_eq (x : Int) {n : Nat} (g : Nat → Nat → Int) (h : n < 9223372036854775807) : ok_crcMore x n g = true ∧ r_crcMore_0 x n g = sumBy crcStep x n (fun j => g j 0) := by
  have hc : (decide ((0 : Int) ≤ 0) && decide ((0 : Int) ≤ (n : Int)) && decide ((n : Int) = (n : Int)) && decide ((n : Int) < 9223372036854775807)) = true := by
    simp only [Bool.and_eq_true, decide_eq_true_eq]
    exact ⟨⟨⟨by omega, by omega⟩, trivial⟩, by omega⟩
  unfold ok_crcMore r_crcMore_0
  rw [hc]
  refine ⟨rfl, ?_⟩
  rw [cond_true, show ((n : Int) - 0).toNat = n by omega]
  rfl

theorem crcSum_eq {n : Nat} (g : Nat → Nat → Int) (h : n < 9223372036854775807) : ok_crcSum n g = true ∧ r_crcSum_0 n g = sumBy crcStep 0 n (fun j => g j 0) := by
  obtain ⟨h1, h2⟩ := crcMore_eq 0 (fun j cc => g (0 + j) cc) h
  unfold ok_crcSum r_crcSum_0
  rw [h1, h2]
  simp

theorem refReg_eq (x : Int) {n : Nat} (g : Nat → Nat → Int) (h : n < 9223372036854775807) : ok_refReg x n g = true ∧ r_refReg_0 x n g = crcFold refStep (fun j => g j 0) n 0 x := by
  have hc : (decide ((0 : Int) ≤ 0) && decide ((0 : Int) ≤ (n : Int)) && decide ((n : Int) < 9223372036854775807)) = true := by
    simp only [Bool.and_eq_true, decide_eq_true_eq]; omega
  unfold ok_refReg r_refReg_0
  rw [hc]
  refine ⟨rfl, ?_⟩
  rw [cond_true, show ((n : Int) - 0).toNat = n by omega]

theorem refSum_eq {n : Nat} (g : Nat → Nat → Int) (h : n < 9223372036854775807) : ok_refSum n g = true ∧ r_refSum_0 n g = sumBy refStep 0 n (fun j => g j 0) := by
  obtain ⟨h1, h2⟩ := refReg_eq 4294967295 (fun j cc => g (0 + j) cc) h
  unfold ok_refSum r_refSum_0
  rw [h1, h2]
  refine ⟨rfl, ?_⟩
  have e : bits BinOp.xor IntKind.u32 4294967295 0 = 4294967295 := by decide +kernel
  unfold sumBy
  rw [e]
  simp

/-! ### words as bytes -/

theorem wrap_byte {x : Int} {k : Int} (h0 : 0 ≤ x) (hk : 0 < k) : IntKind.wrap IntKind.u8 (Int.fdiv x k) = ((x.toNat / k.toNat % 256 : Nat) : Int) := by
  rw [wrap_u8_mod, Int.fdiv_eq_ediv_of_nonneg _ (by omega)]
  obtain ⟨n, rfl⟩ := Int.eq_ofNat_of_zero_le h0
  obtain ⟨m, rfl⟩ := Int.eq_ofNat_of_zero_le (show 0 ≤ k by omega)
  simp only [Int.toNat_natCast]
  rfl

/-- The byte 'j' of seven words. -/
def byteOf (w : Nat → Nat) (j : Nat) : Nat := w (j / 8) / 2 ^ (8 * (j % 8)) % 256

def words7 (x0 x1 x2 x3 x4 x5 x6 : Int) : Nat → Nat := fun i => ([x0, x1, x2, x3, x4, x5, x6].getD i 0).toNat

def sealRows (x0 x1 x2 x3 x4 x5 x6 : Int) : List (List Int) :=
  [[r_wordBytes_0 x0], [r_wordBytes_1 x0], [r_wordBytes_2 x0], [r_wordBytes_3 x0], [r_wordBytes_4 x0], [r_wordBytes_5 x0], [r_wordBytes_6 x0], [r_wordBytes_7 x0],
   [r_wordBytes_8 x1], [r_wordBytes_9 x1], [r_wordBytes_10 x1], [r_wordBytes_11 x1], [r_wordBytes_12 x1], [r_wordBytes_13 x1], [r_wordBytes_14 x1], [r_wordBytes_15 x1],
   [r_wordBytes_16 x2], [r_wordBytes_17 x2], [r_wordBytes_18 x2], [r_wordBytes_19 x2], [r_wordBytes_20 x2], [r_wordBytes_21 x2], [r_wordBytes_22 x2], [r_wordBytes_23 x2],
   [r_wordBytes_24 x3], [r_wordBytes_25 x3], [r_wordBytes_26 x3], [r_wordBytes_27 x3], [r_wordBytes_28 x3], [r_wordBytes_29 x3], [r_wordBytes_30 x3], [r_wordBytes_31 x3],
   [r_wordBytes_32 x4], [r_wordBytes_33 x4], [r_wordBytes_34 x4], [r_wordBytes_35 x4], [r_wordBytes_36 x4], [r_wordBytes_37 x4], [r_wordBytes_38 x4], [r_wordBytes_39 x4],
   [r_wordBytes_40 x5], [r_wordBytes_41 x5], [r_wordBytes_42 x5], [r_wordBytes_43 x5], [r_wordBytes_44 x5], [r_wordBytes_45 x5], [r_wordBytes_46 x5], [r_wordBytes_47 x5],
   [r_wordBytes_48 x6], [r_wordBytes_49 x6], [r_wordBytes_50 x6], [r_wordBytes_51 x6], [r_wordBytes_52 x6], [r_wordBytes_53 x6], [r_wordBytes_54 x6], [r_wordBytes_55 x6]]

theorem byte_at {x : Int} (h : 0 ≤ x) {w : Nat → Nat} {i : Nat} (hw : w i = x.toNat) (k : Nat) (hk : k < 8) (p : Int) (hp : p = ((2 ^ (8 * k) : Nat) : Int)) : IntKind.wrap IntKind.u8 (Int.fdiv x p) = ((byteOf w (8 * i + k) : Nat) : Int) := by
  subst hp
  rw [wrap_byte h (by have := Nat.two_pow_pos (8 * k); omega)]
  unfold byteOf
  rw [show (8 * i + k) / 8 = i by omega, show (8 * i + k) % 8 = k by omega, hw]
  rfl

theorem sealRows_byte {x0 x1 x2 x3 x4 x5 x6 : Int} (h0 : 0 ≤ x0) (h1 : 0 ≤ x1) (h2 : 0 ≤ x2) (h3 : 0 ≤ x3) (h4 : 0 ≤ x4) (h5 : 0 ≤ x5) (h6 : 0 ≤ x6) : ∀ j, j < 56 →
    rowsF (sealRows x0 x1 x2 x3 x4 x5 x6) j 0 = ((byteOf (words7 x0 x1 x2 x3 x4 x5 x6) j : Nat) : Int) := by
  intro j hj
  have d : j / 8 = 0 ∨ j / 8 = 1 ∨ j / 8 = 2 ∨ j / 8 = 3 ∨ j / 8 = 4 ∨ j / 8 = 5 ∨ j / 8 = 6 := by omega
  have m : j % 8 = 0 ∨ j % 8 = 1 ∨ j % 8 = 2 ∨ j % 8 = 3 ∨ j % 8 = 4 ∨ j % 8 = 5 ∨ j % 8 = 6 ∨ j % 8 = 7 := by omega
  rcases d with d | d | d | d | d | d | d
  all_goals
    rcases m with m | m | m | m | m | m | m | m
    all_goals
      have e : j = 8 * (j / 8) + j % 8 := by omega
      rw [d, m] at e
      subst e
      first
        | exact byte_at h0 (w := words7 x0 x1 x2 x3 x4 x5 x6) (i := 0) rfl _ (by omega) _ rfl
        | exact byte_at h1 (w := words7 x0 x1 x2 x3 x4 x5 x6) (i := 1) rfl _ (by omega) _ rfl
        | exact byte_at h2 (w := words7 x0 x1 x2 x3 x4 x5 x6) (i := 2) rfl _ (by omega) _ rfl
        | exact byte_at h3 (w := words7 x0 x1 x2 x3 x4 x5 x6) (i := 3) rfl _ (by omega) _ rfl
        | exact byte_at h4 (w := words7 x0 x1 x2 x3 x4 x5 x6) (i := 4) rfl _ (by omega) _ rfl
        | exact byte_at h5 (w := words7 x0 x1 x2 x3 x4 x5 x6) (i := 5) rfl _ (by omega) _ rfl
        | exact byte_at h6 (w := words7 x0 x1 x2 x3 x4 x5 x6) (i := 6) rfl _ (by omega) _ rfl

/-- The word that seals seven others. -/
def sealN (w : Nat → Nat) : Nat := 4294967296 + crcN 0 56 (byteOf w)

theorem byteOf_lt (w : Nat → Nat) (j : Nat) : byteOf w j < 256 := Nat.mod_lt _ (by decide)

theorem sealN_lt (w : Nat → Nat) : sealN w < 8589934592 := by
  have := crcN_lt (x := 0) (m := 56) (b := byteOf w) (fun j _ => byteOf_lt w j) (by decide)
  unfold sealN; omega

theorem or_mark {n : Nat} (h : n < 4294967296) : 4294967296 ||| n = 4294967296 + n := by
  have := Nat.two_pow_add_eq_or_of_lt (i := 32) (b := n) (by simpa using h) 1
  simpa using this.symm

theorem sum_seal {f : Int → Int} (hf : ∀ n : Nat, n < 4294967296 → f (n : Int) = stpN n) {x0 x1 x2 x3 x4 x5 x6 : Int} (h0 : 0 ≤ x0) (h1 : 0 ≤ x1) (h2 : 0 ≤ x2) (h3 : 0 ≤ x3) (h4 : 0 ≤ x4) (h5 : 0 ≤ x5) (h6 : 0 ≤ x6) :
    sumBy f 0 56 (fun j => rowsF (sealRows x0 x1 x2 x3 x4 x5 x6) j 0) = (crcN 0 56 (byteOf (words7 x0 x1 x2 x3 x4 x5 x6)) : Nat) := by
  have hb := sealRows_byte h0 h1 h2 h3 h4 h5 h6
  have hB : IsBytes 56 (fun j => rowsF (sealRows x0 x1 x2 x3 x4 x5 x6) j 0) := fun j hj => by
    show 0 ≤ rowsF (sealRows x0 x1 x2 x3 x4 x5 x6) j 0 ∧ rowsF (sealRows x0 x1 x2 x3 x4 x5 x6) j 0 < 256
    rw [hb j hj]
    have := byteOf_lt (words7 x0 x1 x2 x3 x4 x5 x6) j
    omega
  have := sumBy_nat hf hB (x := 0) (by decide)
  rw [show ((0 : Nat) : Int) = 0 from rfl] at this
  rw [this]
  congr 1
  exact crcN_congr fun j hj => by
    show (rowsF (sealRows x0 x1 x2 x3 x4 x5 x6) j 0).toNat = _
    rw [hb j hj]; rfl

theorem sum_ok (x0 x1 x2 x3 x4 x5 x6 : Int) : ok_crcSum 56 (rowsF (sealRows x0 x1 x2 x3 x4 x5 x6)) = true := (crcSum_eq (rowsF (sealRows x0 x1 x2 x3 x4 x5 x6)) (by decide)).1

theorem ok_seal (x0 x1 x2 x3 x4 x5 x6 x7 : Int) : ok_crcSeal x0 x1 x2 x3 x4 x5 x6 x7 = true := by
  show (bif ok_crcSum 56 (rowsF (sealRows x0 x1 x2 x3 x4 x5 x6)) then true else false) = true
  rw [sum_ok]; rfl
theorem seal_0 (x0 x1 x2 x3 x4 x5 x6 : Int) : r_crcSeal_0 x0 x1 x2 x3 x4 x5 x6 = x0 := by
  show (bif ok_crcSum 56 (rowsF (sealRows x0 x1 x2 x3 x4 x5 x6)) then x0 else 0) = x0
  rw [sum_ok]; rfl
theorem seal_1 (x0 x1 x2 x3 x4 x5 x6 : Int) : r_crcSeal_1 x0 x1 x2 x3 x4 x5 x6 = x1 := by
  show (bif ok_crcSum 56 (rowsF (sealRows x0 x1 x2 x3 x4 x5 x6)) then x1 else 0) = x1
  rw [sum_ok]; rfl
theorem seal_2 (x0 x1 x2 x3 x4 x5 x6 : Int) : r_crcSeal_2 x0 x1 x2 x3 x4 x5 x6 = x2 := by
  show (bif ok_crcSum 56 (rowsF (sealRows x0 x1 x2 x3 x4 x5 x6)) then x2 else 0) = x2
  rw [sum_ok]; rfl
theorem seal_3 (x0 x1 x2 x3 x4 x5 x6 : Int) : r_crcSeal_3 x0 x1 x2 x3 x4 x5 x6 = x3 := by
  show (bif ok_crcSum 56 (rowsF (sealRows x0 x1 x2 x3 x4 x5 x6)) then x3 else 0) = x3
  rw [sum_ok]; rfl
theorem seal_4 (x0 x1 x2 x3 x4 x5 x6 : Int) : r_crcSeal_4 x0 x1 x2 x3 x4 x5 x6 = x4 := by
  show (bif ok_crcSum 56 (rowsF (sealRows x0 x1 x2 x3 x4 x5 x6)) then x4 else 0) = x4
  rw [sum_ok]; rfl
theorem seal_5 (x0 x1 x2 x3 x4 x5 x6 : Int) : r_crcSeal_5 x0 x1 x2 x3 x4 x5 x6 = x5 := by
  show (bif ok_crcSum 56 (rowsF (sealRows x0 x1 x2 x3 x4 x5 x6)) then x5 else 0) = x5
  rw [sum_ok]; rfl
theorem seal_6 (x0 x1 x2 x3 x4 x5 x6 : Int) : r_crcSeal_6 x0 x1 x2 x3 x4 x5 x6 = x6 := by
  show (bif ok_crcSum 56 (rowsF (sealRows x0 x1 x2 x3 x4 x5 x6)) then x6 else 0) = x6
  rw [sum_ok]; rfl
theorem seal_7 {x0 x1 x2 x3 x4 x5 x6 : Int} (h0 : 0 ≤ x0) (h1 : 0 ≤ x1) (h2 : 0 ≤ x2) (h3 : 0 ≤ x3) (h4 : 0 ≤ x4) (h5 : 0 ≤ x5) (h6 : 0 ≤ x6) : r_crcSeal_7 x0 x1 x2 x3 x4 x5 x6 = (sealN (words7 x0 x1 x2 x3 x4 x5 x6) : Nat) := by
  show (bif ok_crcSum 56 (rowsF (sealRows x0 x1 x2 x3 x4 x5 x6)) then bits BinOp.or IntKind.u64 4294967296 (IntKind.wrap IntKind.u64 (r_crcSum_0 56 (rowsF (sealRows x0 x1 x2 x3 x4 x5 x6)))) else 0) = _
  rw [sum_ok, cond_true, (crcSum_eq (rowsF (sealRows x0 x1 x2 x3 x4 x5 x6)) (by decide)).2, sum_seal (fun _ h => crcStep_nat h) h0 h1 h2 h3 h4 h5 h6]
  have := crcN_lt (x := 0) (m := 56) (b := byteOf (words7 x0 x1 x2 x3 x4 x5 x6)) (fun j _ => byteOf_lt _ j) (by decide)
  rw [wrap_u64 (by omega) (by omega)]
  have e := u64_or_nat 4294967296 (crcN 0 56 (byteOf (words7 x0 x1 x2 x3 x4 x5 x6))) (by decide) (by omega)
  rw [or_mark this] at e
  exact e

theorem good_ok (x0 x1 x2 x3 x4 x5 x6 x7 : Int) : ok_crcGood x0 x1 x2 x3 x4 x5 x6 x7 = true := by
  show (bif ok_crcSeal x0 x1 x2 x3 x4 x5 x6 x7 then true else false) = true
  rw [ok_seal]; rfl

theorem good_eq {x0 x1 x2 x3 x4 x5 x6 : Int} (x7 : Int) (h0 : 0 ≤ x0) (h1 : 0 ≤ x1) (h2 : 0 ≤ x2) (h3 : 0 ≤ x3) (h4 : 0 ≤ x4) (h5 : 0 ≤ x5) (h6 : 0 ≤ x6) : r_crcGood_0 x0 x1 x2 x3 x4 x5 x6 x7 = (x7 == ((sealN (words7 x0 x1 x2 x3 x4 x5 x6) : Nat) : Int)) := by
  unfold r_crcGood_0
  rw [ok_seal, seal_0, seal_1, seal_2, seal_3, seal_4, seal_5, seal_6, seal_7 h0 h1 h2 h3 h4 h5 h6]
  simp

/-! ### as the document says -/

theorem rsum_ok (x0 x1 x2 x3 x4 x5 x6 : Int) : ok_refSum 56 (rowsF (sealRows x0 x1 x2 x3 x4 x5 x6)) = true := (refSum_eq (rowsF (sealRows x0 x1 x2 x3 x4 x5 x6)) (by decide)).1

theorem ok_rseal (x0 x1 x2 x3 x4 x5 x6 x7 : Int) : ok_refSeal x0 x1 x2 x3 x4 x5 x6 x7 = true := by
  show (bif ok_refSum 56 (rowsF (sealRows x0 x1 x2 x3 x4 x5 x6)) then true else false) = true
  rw [rsum_ok]; rfl
theorem rseal_0 (x0 x1 x2 x3 x4 x5 x6 : Int) : r_refSeal_0 x0 x1 x2 x3 x4 x5 x6 = x0 := by
  show (bif ok_refSum 56 (rowsF (sealRows x0 x1 x2 x3 x4 x5 x6)) then x0 else 0) = x0
  rw [rsum_ok]; rfl
theorem rseal_1 (x0 x1 x2 x3 x4 x5 x6 : Int) : r_refSeal_1 x0 x1 x2 x3 x4 x5 x6 = x1 := by
  show (bif ok_refSum 56 (rowsF (sealRows x0 x1 x2 x3 x4 x5 x6)) then x1 else 0) = x1
  rw [rsum_ok]; rfl
theorem rseal_2 (x0 x1 x2 x3 x4 x5 x6 : Int) : r_refSeal_2 x0 x1 x2 x3 x4 x5 x6 = x2 := by
  show (bif ok_refSum 56 (rowsF (sealRows x0 x1 x2 x3 x4 x5 x6)) then x2 else 0) = x2
  rw [rsum_ok]; rfl
theorem rseal_3 (x0 x1 x2 x3 x4 x5 x6 : Int) : r_refSeal_3 x0 x1 x2 x3 x4 x5 x6 = x3 := by
  show (bif ok_refSum 56 (rowsF (sealRows x0 x1 x2 x3 x4 x5 x6)) then x3 else 0) = x3
  rw [rsum_ok]; rfl
theorem rseal_4 (x0 x1 x2 x3 x4 x5 x6 : Int) : r_refSeal_4 x0 x1 x2 x3 x4 x5 x6 = x4 := by
  show (bif ok_refSum 56 (rowsF (sealRows x0 x1 x2 x3 x4 x5 x6)) then x4 else 0) = x4
  rw [rsum_ok]; rfl
theorem rseal_5 (x0 x1 x2 x3 x4 x5 x6 : Int) : r_refSeal_5 x0 x1 x2 x3 x4 x5 x6 = x5 := by
  show (bif ok_refSum 56 (rowsF (sealRows x0 x1 x2 x3 x4 x5 x6)) then x5 else 0) = x5
  rw [rsum_ok]; rfl
theorem rseal_6 (x0 x1 x2 x3 x4 x5 x6 : Int) : r_refSeal_6 x0 x1 x2 x3 x4 x5 x6 = x6 := by
  show (bif ok_refSum 56 (rowsF (sealRows x0 x1 x2 x3 x4 x5 x6)) then x6 else 0) = x6
  rw [rsum_ok]; rfl
theorem rseal_7 {x0 x1 x2 x3 x4 x5 x6 : Int} (h0 : 0 ≤ x0) (h1 : 0 ≤ x1) (h2 : 0 ≤ x2) (h3 : 0 ≤ x3) (h4 : 0 ≤ x4) (h5 : 0 ≤ x5) (h6 : 0 ≤ x6) : r_refSeal_7 x0 x1 x2 x3 x4 x5 x6 = (sealN (words7 x0 x1 x2 x3 x4 x5 x6) : Nat) := by
  show (bif ok_refSum 56 (rowsF (sealRows x0 x1 x2 x3 x4 x5 x6)) then bits BinOp.or IntKind.u64 (IntKind.wrap IntKind.u64 (r_refSum_0 56 (rowsF (sealRows x0 x1 x2 x3 x4 x5 x6)))) 4294967296 else 0) = _
  rw [rsum_ok, cond_true, (refSum_eq (rowsF (sealRows x0 x1 x2 x3 x4 x5 x6)) (by decide)).2, sum_seal (fun _ h => refStep_nat h) h0 h1 h2 h3 h4 h5 h6]
  have := crcN_lt (x := 0) (m := 56) (b := byteOf (words7 x0 x1 x2 x3 x4 x5 x6)) (fun j _ => byteOf_lt _ j) (by decide)
  rw [wrap_u64 (by omega) (by omega)]
  have e := u64_or_nat (crcN 0 56 (byteOf (words7 x0 x1 x2 x3 x4 x5 x6))) 4294967296 (by omega) (by decide)
  rw [Nat.or_comm, or_mark this] at e
  exact e

theorem rgood_ok (x0 x1 x2 x3 x4 x5 x6 x7 : Int) : ok_refGood x0 x1 x2 x3 x4 x5 x6 x7 = true := by
  show (bif ok_refSeal x0 x1 x2 x3 x4 x5 x6 x7 then true else false) = true
  rw [ok_rseal]; rfl

theorem rgood_eq {x0 x1 x2 x3 x4 x5 x6 : Int} (x7 : Int) (h0 : 0 ≤ x0) (h1 : 0 ≤ x1) (h2 : 0 ≤ x2) (h3 : 0 ≤ x3) (h4 : 0 ≤ x4) (h5 : 0 ≤ x5) (h6 : 0 ≤ x6) : r_refGood_0 x0 x1 x2 x3 x4 x5 x6 x7 = (((sealN (words7 x0 x1 x2 x3 x4 x5 x6) : Nat) : Int) == x7) := by
  unfold r_refGood_0
  rw [ok_rseal, rseal_0, rseal_1, rseal_2, rseal_3, rseal_4, rseal_5, rseal_6, rseal_7 h0 h1 h2 h3 h4 h5 h6]
  simp
end Go.Proofs.Ytobikddlkoibjaa.G
end

/-
  Seals, and what is good: the code's and the reference's, in the same words.
-/
section
namespace Go.Proofs.Ytobikddlkoibjaa.G
open Go Go.AM Go.Proofs

def sealI (x0 x1 x2 x3 x4 x5 x6 : Int) : Int := ((sealN (words7 x0 x1 x2 x3 x4 x5 x6) : Nat) : Int)
def F2_Seal (l : List At) : Tr (List At) := .br 0 (decide (0 ≤ aI l 0 ∧ 0 ≤ aI l 1 ∧ 0 ≤ aI l 2 ∧ 0 ≤ aI l 3 ∧ 0 ≤ aI l 4 ∧ 0 ≤ aI l 5 ∧ 0 ≤ aI l 6)) (.ok [.i (aI l 0), .i (aI l 1), .i (aI l 2), .i (aI l 3), .i (aI l 4), .i (aI l 5), .i (aI l 6), .i (sealI (aI l 0) (aI l 1) (aI l 2) (aI l 3) (aI l 4) (aI l 5) (aI l 6))]) .no
def F2_Good (l : List At) : Tr (List At) := .br 0 (decide (0 ≤ aI l 0 ∧ 0 ≤ aI l 1 ∧ 0 ≤ aI l 2 ∧ 0 ≤ aI l 3 ∧ 0 ≤ aI l 4 ∧ 0 ≤ aI l 5 ∧ 0 ≤ aI l 6)) (.ok [.b (aI l 7 == sealI (aI l 0) (aI l 1) (aI l 2) (aI l 3) (aI l 4) (aI l 5) (aI l 6))]) .no

theorem sealI_lo (x0 x1 x2 x3 x4 x5 x6 : Int) : 0 ≤ sealI x0 x1 x2 x3 x4 x5 x6 ∧ sealI x0 x1 x2 x3 x4 x5 x6 < 8589934592 := by
  have := sealN_lt (words7 x0 x1 x2 x3 x4 x5 x6)
  unfold sealI
  omega

theorem h_crcSeal : ∀ l r, (F2_Seal l).val = some r → (F_crcSeal l).val = some r := by
  intro l r h
  obtain ⟨hc, h⟩ := guard_val h
  have := val_ok h
  subst this
  obtain ⟨h0, h1, h2, h3, h4, h5, h6⟩ := of_decide_eq_true hc
  unfold F_crcSeal
  rw [br_t (ok_seal (aI l 0) (aI l 1) (aI l 2) (aI l 3) (aI l 4) (aI l 5) (aI l 6) (aI l 7)), seal_0, seal_1, seal_2, seal_3, seal_4, seal_5, seal_6, seal_7 h0 h1 h2 h3 h4 h5 h6]
  rfl

theorem h_refSeal : ∀ l r, (F2_Seal l).val = some r → (F_refSeal l).val = some r := by
  intro l r h
  obtain ⟨hc, h⟩ := guard_val h
  have := val_ok h
  subst this
  obtain ⟨h0, h1, h2, h3, h4, h5, h6⟩ := of_decide_eq_true hc
  unfold F_refSeal
  rw [br_t (ok_rseal (aI l 0) (aI l 1) (aI l 2) (aI l 3) (aI l 4) (aI l 5) (aI l 6) (aI l 7)), rseal_0, rseal_1, rseal_2, rseal_3, rseal_4, rseal_5, rseal_6, rseal_7 h0 h1 h2 h3 h4 h5 h6]
  rfl

theorem h_crcGood : ∀ l r, (F2_Good l).val = some r → (F_crcGood l).val = some r := by
  intro l r h
  obtain ⟨hc, h⟩ := guard_val h
  have := val_ok h
  subst this
  obtain ⟨h0, h1, h2, h3, h4, h5, h6⟩ := of_decide_eq_true hc
  unfold F_crcGood
  rw [br_t (good_ok (aI l 0) (aI l 1) (aI l 2) (aI l 3) (aI l 4) (aI l 5) (aI l 6) (aI l 7)), good_eq _ h0 h1 h2 h3 h4 h5 h6]
  rfl

theorem h_refGood : ∀ l r, (F2_Good l).val = some r → (F_refGood l).val = some r := by
  intro l r h
  obtain ⟨hc, h⟩ := guard_val h
  have := val_ok h
  subst this
  obtain ⟨h0, h1, h2, h3, h4, h5, h6⟩ := of_decide_eq_true hc
  unfold F_refGood
  rw [br_t (rgood_ok (aI l 0) (aI l 1) (aI l 2) (aI l 3) (aI l 4) (aI l 5) (aI l 6) (aI l 7)), rgood_eq _ h0 h1 h2 h3 h4 h5 h6]
  refine congrArg (fun b => some [At.b b]) ?_
  rw [Bool.eq_iff_iff, beq_iff_eq, beq_iff_eq]
  exact eq_comm

theorem s2_crcSeal : SpecF Try.prog 28 (.pure (locP ish_crcSeal osh_crcSeal F2_Seal)) :=
  spec_locP (sy := y_crcSeal) (fuel := 100) (Lp := noLoops) o_refSum mixed ⟨Try.func28, by kernel_rfl, by kernel_rfl⟩ ish_crcSeal osh_crcSeal rfl (noLoops_ok _)
    fun l r h => (hT_merged [.i, .i, .i, .i, .i, .i, .i, .i] e_crcSeal (fun l => by kernel_rfl) (fun l => by kernel_rfl)) l r (h_crcSeal l r h)

theorem s2_refSeal : SpecF Try.prog 30 (.pure (locP ish_refSeal osh_refSeal F2_Seal)) :=
  spec_locP (sy := y_refSeal) (fuel := 100) (Lp := noLoops) o_crcSeal mixed ⟨Try.func30, by kernel_rfl, by kernel_rfl⟩ ish_refSeal osh_refSeal rfl (noLoops_ok _)
    fun l r h => (hT_merged [.i, .i, .i, .i, .i, .i, .i, .i] e_refSeal (fun l => by kernel_rfl) (fun l => by kernel_rfl)) l r (h_refSeal l r h)

theorem s2_crcGood : SpecF Try.prog 31 (.pure (locP ish_crcGood osh_crcGood F2_Good)) :=
  spec_locP (sy := y_crcGood) (fuel := 100) (Lp := noLoops) o_refSeal mixed ⟨Try.func31, by kernel_rfl, by kernel_rfl⟩ ish_crcGood osh_crcGood rfl (noLoops_ok _)
    fun l r h => (hT_merged [.b] e_crcGood (fun l => by kernel_rfl) (fun l => by kernel_rfl)) l r (h_crcGood l r h)

theorem s2_refGood : SpecF Try.prog 34 (.pure (locP ish_refGood osh_refGood F2_Good)) :=
  spec_locP (sy := y_refGood) (fuel := 100) (Lp := noLoops) o_crcGood mixed ⟨Try.func34, by kernel_rfl, by kernel_rfl⟩ ish_refGood osh_refGood rfl (noLoops_ok _)
    fun l r h => (hT_merged [.b] e_refGood (fun l => by kernel_rfl) (fun l => by kernel_rfl)) l r (h_refGood l r h)
def Γ_CS : Specs := (upd (upd (upd (upd Γ_rWord 28 (.pure (locP ish_crcSeal osh_crcSeal F2_Seal))) 30 (.pure (locP ish_refSeal osh_refSeal F2_Seal))) 31 (.pure (locP ish_crcGood osh_crcGood F2_Good))) 34 (.pure (locP ish_refGood osh_refGood F2_Good)))
theorem o_CS : SpecOK Try.prog Γ_CS := (SpecOK.upd (SpecOK.upd (SpecOK.upd (SpecOK.upd o_rWord s2_crcSeal) s2_refSeal) s2_crcGood) s2_refGood)
end Go.Proofs.Ytobikddlkoibjaa.G
end

/-
  An entry's word: the code's and the reference's, in the same words.
-/
section
namespace Go.Proofs.Ytobikddlkoibjaa.G
open Go Go.AM Go.Proofs

def entOk (x0 x1 x2 : Int) : Bool := decide (0 ≤ x0 ∧ x0 ≤ 4 ∧ 0 ≤ x1 ∧ x1 ≤ 16777215 ∧ 0 ≤ x2 ∧ x2 ≤ 1023 ∧ ¬ (x0 = 0 ∧ x2 ≠ 0))
def entV (x0 x1 x2 : Int) : Int := x0 + x1 * 16 + x2 * 268435456
def entW (x0 x1 x2 : Int) : Int := bif entOk x0 x1 x2 then entV x0 x1 x2 else 0
def entE (x0 x1 x2 : Int) : Int := bif entOk x0 x1 x2 then 0 else 1
def F2_Word (l : List At) : Tr (List At) := .ok [.i (entW (aI l 0) (aI l 1) (aI l 2)), .i (entE (aI l 0) (aI l 1) (aI l 2))]

theorem within_eq (x a b : Int) : r_within__0 x a b = decide (a ≤ x ∧ x ≤ b) := by
  unfold r_within__0
  rw [Bool.eq_iff_iff]
  by_cases h : x ≥ a
  · simp [h]
  · simp [h]

theorem or_stepG {p b i d : Nat} {P B M : Int} (hP : P = p) (hB : B = b) (hM : M = ((2 ^ i : Nat) : Int)) (hp : p < 2 ^ i) (hb : b < 2 ^ d) (hi : i + d ≤ 64) :
    bits BinOp.or IntKind.u64 P (IntKind.u64.wrap (IntKind.u64.wrap B * M)) = ((p + b * 2 ^ i : Nat) : Int) ∧ p + b * 2 ^ i < 2 ^ (i + d) := by
  subst hP; subst hB; subst hM
  have h1 : (2 : Nat) ^ (i + d) = 2 ^ d * 2 ^ i := by rw [Nat.add_comm, Nat.pow_add]
  have h2 : p + b * 2 ^ i < 2 ^ (i + d) := by
    have : (b + 1) * 2 ^ i ≤ 2 ^ d * 2 ^ i := Nat.mul_le_mul_right _ hb
    rw [Nat.add_mul] at this
    omega
  have h3 : (2 : Nat) ^ (i + d) ≤ 2 ^ 64 := Nat.pow_le_pow_right (by decide) (by omega)
  have h4 : (2 : Nat) ^ 64 = 18446744073709551616 := by decide
  have h5 : b * 2 ^ i < 18446744073709551616 := by omega
  have h6 : b < 18446744073709551616 := by
    have : b * 1 ≤ b * 2 ^ i := Nat.mul_le_mul_left _ (Nat.two_pow_pos i)
    omega
  refine ⟨?_, h2⟩
  rw [wrap_u64_nat h6, ← Int.natCast_mul, wrap_u64_nat h5, bits_or_u64_nat _ _ (by omega) h5, or_add hp]

section
variable {x0 x1 x2 : Int}
theorem ent_no (h : entOk x0 x1 x2 = false) : ([.i 0, .i 1] : List At) = [.i (entW x0 x1 x2), .i (entE x0 x1 x2)] := by
  unfold entW entE
  rw [h]; rfl
theorem ent_bits (h : entOk x0 x1 x2 = true) : bits BinOp.or IntKind.u64 (bits BinOp.or IntKind.u64 (IntKind.wrap IntKind.u64 x0) (IntKind.wrap IntKind.u64 (IntKind.wrap IntKind.u64 x1 * (16 : Int)))) (IntKind.wrap IntKind.u64 (IntKind.wrap IntKind.u64 x2 * (268435456 : Int))) = entV x0 x1 x2 := by
  have h := of_decide_eq_true h
  obtain ⟨a1, a2, b1, b2, c1, c2, _⟩ := h
  obtain ⟨p, rfl⟩ := Int.eq_ofNat_of_zero_le a1
  obtain ⟨q, rfl⟩ := Int.eq_ofNat_of_zero_le b1
  obtain ⟨r, rfl⟩ := Int.eq_ofNat_of_zero_le c1
  rw [wrap_u64 (x := (p : Int)) (by omega) (by omega)]
  obtain ⟨e1, k1⟩ := or_stepG (p := p) (i := 4) (d := 24) (P := p) (B := q) (M := 16) rfl rfl rfl (by omega) (by omega) (by decide)
  obtain ⟨e2, k2⟩ := or_stepG (i := 28) (d := 16) (B := r) (M := 268435456) e1 rfl rfl (by omega) (by omega) (by decide)
  rw [e2]
  unfold entV
  simp only [Nat.reducePow]
  omega
theorem ent_yes (h : entOk x0 x1 x2 = true) : ([.i (bits BinOp.or IntKind.u64 (bits BinOp.or IntKind.u64 (IntKind.wrap IntKind.u64 x0) (IntKind.wrap IntKind.u64 (IntKind.wrap IntKind.u64 x1 * (16 : Int)))) (IntKind.wrap IntKind.u64 (IntKind.wrap IntKind.u64 x2 * (268435456 : Int)))), .i 0] : List At) = [.i (entW x0 x1 x2), .i (entE x0 x1 x2)] := by
  rw [ent_bits h]
  unfold entW entE
  rw [h]; rfl
theorem ent_leaf (h : entOk x0 x1 x2 = true) : (.br 0 (ok_rWith (0 : Int) (0 : Int) (4 : Int) (IntKind.wrap IntKind.u64 x0))
 (.br 0 (ok_rWith (r_rWith_0 (0 : Int) (0 : Int) (4 : Int) (IntKind.wrap IntKind.u64 x0)) (4 : Int) (24 : Int) (IntKind.wrap IntKind.u64 x1))
 (.br 0 (ok_rWith (r_rWith_0 (r_rWith_0 (0 : Int) (0 : Int) (4 : Int) (IntKind.wrap IntKind.u64 x0)) (4 : Int) (24 : Int) (IntKind.wrap IntKind.u64 x1)) (28 : Int) (16 : Int) (IntKind.wrap IntKind.u64 x2))
 (.ok [(.i (r_rWith_0 (r_rWith_0 (r_rWith_0 (0 : Int) (0 : Int) (4 : Int) (IntKind.wrap IntKind.u64 x0)) (4 : Int) (24 : Int) (IntKind.wrap IntKind.u64 x1)) (28 : Int) (16 : Int) (IntKind.wrap IntKind.u64 x2))), (.i (r_rWith_1 (r_rWith_0 (r_rWith_0 (0 : Int) (0 : Int) (4 : Int) (IntKind.wrap IntKind.u64 x0)) (4 : Int) (24 : Int) (IntKind.wrap IntKind.u64 x1)) (28 : Int) (16 : Int) (IntKind.wrap IntKind.u64 x2)))])
 (.no))
 (.no))
 (.no) : Tr (List At)).sat fun r => r = [.i (entW x0 x1 x2), .i (entE x0 x1 x2)] := by
  have hh := h
  have h := of_decide_eq_true h
  obtain ⟨a1, a2, b1, b2, c1, c2, _⟩ := h
  have w0 : IntKind.wrap IntKind.u64 x0 = x0 := wrap_u64 (by omega) (by omega)
  have w1 : IntKind.wrap IntKind.u64 x1 = x1 := wrap_u64 (by omega) (by omega)
  have w2 : IntKind.wrap IntKind.u64 x2 = x2 := wrap_u64 (by omega) (by omega)
  rw [w0, w1, w2]
  obtain ⟨a, rfl⟩ := Int.eq_ofNat_of_zero_le a1
  obtain ⟨b, rfl⟩ := Int.eq_ofNat_of_zero_le b1
  obtain ⟨c, rfl⟩ := Int.eq_ofNat_of_zero_le c1
  obtain ⟨e1, f1, _⟩ := rWith_put (n := 0) (a := 0) (d := 4) (v := a) (by decide) (by decide) (by decide) (by simp only [Nat.reducePow]; omega)
  have f1' : r_rWith_0 0 0 4 (a : Int) = ((a : Nat) : Int) := by refine f1.trans ?_; simp
  obtain ⟨e2, f2, _⟩ := rWith_put (n := a) (a := 4) (d := 24) (v := b) (by simp only [Nat.reducePow]; omega) (by decide) (by decide) (by simp only [Nat.reducePow]; omega)
  obtain ⟨e3, f3, g3⟩ := rWith_put (n := a + b * 2 ^ 4) (a := 28) (d := 16) (v := c) (by simp only [Nat.reducePow]; omega) (by decide) (by decide) (by simp only [Nat.reducePow]; omega)
  have f2' : r_rWith_0 (a : Int) 4 24 (b : Int) = ((a + b * 2 ^ 4 : Nat) : Int) := f2
  have f3' : r_rWith_0 ((a + b * 2 ^ 4 : Nat) : Int) 28 16 (c : Int) = ((a + b * 2 ^ 4 + c * 2 ^ 28 : Nat) : Int) := f3
  have g3' : r_rWith_1 ((a + b * 2 ^ 4 : Nat) : Int) 28 16 (c : Int) = 0 := g3
  rw [f1', f2', f3', g3']
  refine brT e1 (brT e2 (brT e3 (Tr.sat_ok.2 ?_)))
  unfold entW entE entV
  rw [hh]
  simp only [cond_true, List.cons.injEq, At.i.injEq, and_true, Nat.reducePow]
  omega
end

theorem t_gWord (x0 x1 x2 : Int) : (T_gWord x0 x1 x2).sat fun r => r = [.i (entW x0 x1 x2), .i (entE x0 x1 x2)] := by
  unfold T_gWord
  rw [within_eq, within_eq, within_eq]
  repeat' (first | refine brND (fun h => ?_) (fun h => ?_) | refine brQ (fun h => ?_) (fun h => ?_) | refine brNE (fun h => ?_) (fun h => ?_))
  all_goals first
    | exact Tr.sat_ok.2 (ent_no (decide_eq_false (by omega)))
    | exact Tr.sat_ok.2 (ent_yes (decide_eq_true (by omega)))

theorem t_rWord (x0 x1 x2 : Int) : (T_rWord x0 x1 x2).sat fun r => r = [.i (entW x0 x1 x2), .i (entE x0 x1 x2)] := by
  unfold T_rWord
  repeat' (first | refine brD (fun h => ?_) (fun h => ?_) | refine brQ (fun h => ?_) (fun h => ?_) | refine brNE (fun h => ?_) (fun h => ?_))
  all_goals first
    | exact Tr.sat_ok.2 (ent_no (decide_eq_false (by omega)))
    | exact ent_leaf (decide_eq_true (by omega))

theorem h_gWord : ∀ l r, (F2_Word l).val = some r → ∃ r', ((call Try.prog Γ_within_ y_gWord noLoops 100 Try.f27 (mkV ish_gWord l) (mkH ish_gWord l)).bind (leafO 0 osh_gWord)).val = some r' ∧ AtsEq r' r := by
  intro l r h
  have := val_ok h
  subst this
  obtain ⟨r', h1, h2⟩ := t_gWord (aI l 0) (aI l 1) (aI l 2)
  exact ⟨r', by rw [e_gWord]; exact h1, by rw [h2]; exact AtsEq.refl _⟩
theorem h_rWord : ∀ l r, (F2_Word l).val = some r → ∃ r', ((call Try.prog Γ_rWith y_rWord noLoops 100 Try.f29 (mkV ish_rWord l) (mkH ish_rWord l)).bind (leafO 0 osh_rWord)).val = some r' ∧ AtsEq r' r := by
  intro l r h
  have := val_ok h
  subst this
  obtain ⟨r', h1, h2⟩ := t_rWord (aI l 0) (aI l 1) (aI l 2)
  exact ⟨r', by rw [e_rWord]; exact h1, by rw [h2]; exact AtsEq.refl _⟩
theorem s2_gWord : SpecF Try.prog 27 (.pure (locP ish_gWord osh_gWord F2_Word)) :=
  spec_locP (sy := y_gWord) (fuel := 100) (Lp := noLoops) o_within_ mixed ⟨Try.func27, by kernel_rfl, by kernel_rfl⟩ ish_gWord osh_gWord rfl (noLoops_ok _) h_gWord
theorem s2_rWord : SpecF Try.prog 29 (.pure (locP ish_rWord osh_rWord F2_Word)) :=
  spec_locP (sy := y_rWord) (fuel := 100) (Lp := noLoops) o_rWith mixed ⟨Try.func29, by kernel_rfl, by kernel_rfl⟩ ish_rWord osh_rWord rfl (noLoops_ok _) h_rWord
def Γ_SW : Specs := upd (upd Γ_CS 27 (.pure (locP ish_gWord osh_gWord F2_Word))) 29 (.pure (locP ish_rWord osh_rWord F2_Word))
theorem o_SW : SpecOK Try.prog Γ_SW := SpecOK.upd (SpecOK.upd o_CS s2_gWord) s2_rWord
end Go.Proofs.Ytobikddlkoibjaa.G
end

/-
  What functions of the seat compute, printed by a program from the explorer.
-/
section
namespace Go.Proofs.Ytobikddlkoibjaa.G
open Go Go.AM Go.Proofs
/-! ### gEOf -/

def ish_gEOf : FSh := ⟨[.v false [.k (.n .u64)]], []⟩
def osh_gEOf : FSh := ⟨[.tup [(true, [.k (.n .i64), .k (.n .i64), .k (.n .i64)]), (false, [.k .b])]], []⟩
def T_gEOf (x0 : Int) : Tr (List At) :=
 .br 0 (ok_gPart (0 : Int) (4 : Int) x0)
 (.br 0 (ok_gPart (4 : Int) (24 : Int) x0)
 (.br 0 (ok_gPart (28 : Int) (16 : Int) x0)
 (.br 23 (entE (r_gPart_0 (0 : Int) (4 : Int) x0) (r_gPart_0 (4 : Int) (24 : Int) x0) (r_gPart_0 (28 : Int) (16 : Int) x0) != (0 : Int))
 (.ok [(.i ((0 : Int))), (.i ((0 : Int))), (.i ((0 : Int))), (.b (false))])
 (.br 27 (entW (r_gPart_0 (0 : Int) (4 : Int) x0) (r_gPart_0 (4 : Int) (24 : Int) x0) (r_gPart_0 (28 : Int) (16 : Int) x0) != x0)
 (.ok [(.i ((0 : Int))), (.i ((0 : Int))), (.i ((0 : Int))), (.b (false))])
 (.ok [(.i (r_gPart_0 (0 : Int) (4 : Int) x0)), (.i (r_gPart_0 (4 : Int) (24 : Int) x0)), (.i (r_gPart_0 (28 : Int) (16 : Int) x0)), (.b (true))])))
 (.no))
 (.no))
 (.no)
def y_gEOf : Nat → Option Nat := (syOf3 [23, 27] [] [])
def TL_gEOf (l : List At) : Tr (List At) := T_gEOf (aI l 0)
theorem e_gEOf (l : List At) : (call Try.prog Γ_SW y_gEOf noLoops 100 Try.f32 (mkV ish_gEOf l) (mkH ish_gEOf l)).bind (leafO 0 osh_gEOf) = TL_gEOf l := by kernel_rfl
def F_gEOf : List At → Tr (List At) := TL_gEOf
theorem s_gEOf : SpecF Try.prog 32 (.pure (locP ish_gEOf osh_gEOf F_gEOf)) :=
  spec_locP (sy := y_gEOf) (fuel := 100) (Lp := noLoops) o_SW mixed ⟨Try.func32, by kernel_rfl, by kernel_rfl⟩ ish_gEOf osh_gEOf rfl (noLoops_ok _) (hT_ways e_gEOf)
def Γ_gEOf : Specs := upd Γ_SW 32 (.pure (locP ish_gEOf osh_gEOf F_gEOf))
theorem o_gEOf : SpecOK Try.prog Γ_gEOf := SpecOK.upd o_SW s_gEOf

/-! ### rEOf -/

def ish_rEOf : FSh := ⟨[.v false [.k (.n .u64)]], []⟩
def osh_rEOf : FSh := ⟨[.tup [(true, [.k (.n .i64), .k (.n .i64), .k (.n .i64)]), (false, [.k .b])]], []⟩
def T_rEOf (x0 : Int) : Tr (List At) :=
 .br 0 (ok_rField x0 (0 : Int) (4 : Int))
 (.br 0 (ok_rField x0 (4 : Int) (24 : Int))
 (.br 0 (ok_rField x0 (28 : Int) (16 : Int))
 (.br 24 (entE (IntKind.wrap IntKind.i64 (r_rField_0 x0 (0 : Int) (4 : Int))) (IntKind.wrap IntKind.i64 (r_rField_0 x0 (4 : Int) (24 : Int))) (IntKind.wrap IntKind.i64 (r_rField_0 x0 (28 : Int) (16 : Int))) != (0 : Int))
 (.ok [(.i ((0 : Int))), (.i ((0 : Int))), (.i ((0 : Int))), (.b (false))])
 (.br 28 (entW (IntKind.wrap IntKind.i64 (r_rField_0 x0 (0 : Int) (4 : Int))) (IntKind.wrap IntKind.i64 (r_rField_0 x0 (4 : Int) (24 : Int))) (IntKind.wrap IntKind.i64 (r_rField_0 x0 (28 : Int) (16 : Int))) != x0)
 (.ok [(.i ((0 : Int))), (.i ((0 : Int))), (.i ((0 : Int))), (.b (false))])
 (.ok [(.i (IntKind.wrap IntKind.i64 (r_rField_0 x0 (0 : Int) (4 : Int)))), (.i (IntKind.wrap IntKind.i64 (r_rField_0 x0 (4 : Int) (24 : Int)))), (.i (IntKind.wrap IntKind.i64 (r_rField_0 x0 (28 : Int) (16 : Int)))), (.b (true))])))
 (.no))
 (.no))
 (.no)
def y_rEOf : Nat → Option Nat := (syOf3 [24, 28] [] [])
def TL_rEOf (l : List At) : Tr (List At) := T_rEOf (aI l 0)
theorem e_rEOf (l : List At) : (call Try.prog Γ_gEOf y_rEOf noLoops 100 Try.f33 (mkV ish_rEOf l) (mkH ish_rEOf l)).bind (leafO 0 osh_rEOf) = TL_rEOf l := by kernel_rfl
def F_rEOf : List At → Tr (List At) := TL_rEOf
theorem s_rEOf : SpecF Try.prog 33 (.pure (locP ish_rEOf osh_rEOf F_rEOf)) :=
  spec_locP (sy := y_rEOf) (fuel := 100) (Lp := noLoops) o_gEOf mixed ⟨Try.func33, by kernel_rfl, by kernel_rfl⟩ ish_rEOf osh_rEOf rfl (noLoops_ok _) (hT_ways e_rEOf)
def Γ_rEOf : Specs := upd Γ_gEOf 33 (.pure (locP ish_rEOf osh_rEOf F_rEOf))
theorem o_rEOf : SpecOK Try.prog Γ_rEOf := SpecOK.upd o_gEOf s_rEOf

end Go.Proofs.Ytobikddlkoibjaa.G
end

/-
  An entry, out of its word: the code's and the reference's, in the same words.
-/
section
namespace Go.Proofs.Ytobikddlkoibjaa.G
open Go Go.AM Go.Proofs

def eK (w : Int) : Int := w % 16
def eV (w : Int) : Int := w / 16 % 16777216
def eL (w : Int) : Int := w / 268435456 % 65536
def eOk (w : Int) : Bool := entOk (eK w) (eV w) (eL w) && (entV (eK w) (eV w) (eL w) == w)
def eR (w : Int) : List At := [.i (bif eOk w then eK w else 0), .i (bif eOk w then eV w else 0), .i (bif eOk w then eL w else 0), .b (eOk w)]
def F2_EOf (l : List At) : Tr (List At) := .br 0 (decide (0 ≤ aI l 0 ∧ aI l 0 < 18446744073709551616))
  (.ok [.i (bif eOk (aI l 0) then eK (aI l 0) else 0), .i (bif eOk (aI l 0) then eV (aI l 0) else 0), .i (bif eOk (aI l 0) then eL (aI l 0) else 0), .b (eOk (aI l 0))]) .no

theorem field_mod (n a d : Nat) : fieldN n a d = n / 2 ^ a % 2 ^ d := by
  unfold fieldN
  exact Nat.and_two_pow_sub_one_eq_mod _ _

theorem gpart {n a d : Nat} (hn : n < 18446744073709551616) (hd : 1 ≤ d) (hd2 : d ≤ 32) (h : a + d ≤ 64) : ok_gPart (a : Int) (d : Int) (n : Int) = true ∧ r_gPart_0 (a : Int) (d : Int) (n : Int) = ((n / 2 ^ a % 2 ^ d : Nat) : Int) := by
  obtain ⟨h1, h2⟩ := wField_eq hn hd h
  have e1 : ok_wField_ (n : Int) (a : Int) (d : Int) = true := h2
  have e2 : r_wField__0 (n : Int) (a : Int) (d : Int) = (fieldN n a d : Int) := h1
  unfold ok_gPart r_gPart_0
  rw [e1, e2, cond_true, cond_true]
  have hl := fieldN_lt n a d
  have : 2 ^ d ≤ 2 ^ 32 := Nat.pow_le_pow_right (by decide) hd2
  rw [wrap_i64 (by omega) (by omega), field_mod]
  exact ⟨rfl, rfl⟩

theorem rpart {n a d : Nat} (hn : n < 18446744073709551616) (hd : 1 ≤ d) (hd2 : d ≤ 32) (h : a + d ≤ 64) : ok_rField (n : Int) (a : Int) (d : Int) = true ∧ IntKind.wrap IntKind.i64 (r_rField_0 (n : Int) (a : Int) (d : Int)) = ((n / 2 ^ a % 2 ^ d : Nat) : Int) := by
  obtain ⟨h1, h2⟩ := rField_eq hn hd h
  refine ⟨h1, ?_⟩
  rw [h2, field_mod]
  have hl : n / 2 ^ a % 2 ^ d < 2 ^ d := Nat.mod_lt _ (Nat.two_pow_pos d)
  have : 2 ^ d ≤ 2 ^ 32 := Nat.pow_le_pow_right (by decide) hd2
  rw [wrap_i64 (by omega) (by omega)]

theorem eK_nat (n : Nat) : ((n / 2 ^ 0 % 2 ^ 4 : Nat) : Int) = eK n := by unfold eK; simp
theorem eV_nat (n : Nat) : ((n / 2 ^ 4 % 2 ^ 24 : Nat) : Int) = eV n := by unfold eV; simp
theorem eL_nat (n : Nat) : ((n / 2 ^ 28 % 2 ^ 16 : Nat) : Int) = eL n := by unfold eL; simp

theorem e_fin {w : Int} {g g' : Nat} : (Tr.br g (entE (eK w) (eV w) (eL w) != (0 : Int)) (.ok [(.i ((0 : Int))), (.i ((0 : Int))), (.i ((0 : Int))), (.b (false))])
    (.br g' (entW (eK w) (eV w) (eL w) != w) (.ok [(.i ((0 : Int))), (.i ((0 : Int))), (.i ((0 : Int))), (.b (false))]) (.ok [(.i (eK w)), (.i (eV w)), (.i (eL w)), (.b (true))]))).sat fun r => r = eR w := by
  unfold eR entE entW eOk
  cases h : entOk (eK w) (eV w) (eL w) with
  | false => exact brT rfl (Tr.sat_ok.2 rfl)
  | true =>
    refine brF rfl (brNE (fun h2 => ?_) (fun h2 => ?_))
    · have : (entV (eK w) (eV w) (eL w) == w) = false := beq_false_of_ne h2
      rw [this]
      exact Tr.sat_ok.2 rfl
    · have : (entV (eK w) (eV w) (eL w) == w) = true := beq_iff_eq.2 h2
      rw [this]
      exact Tr.sat_ok.2 rfl

theorem t_gEOf {x0 : Int} (h0 : 0 ≤ x0) (h1 : x0 < 18446744073709551616) : (T_gEOf x0).sat fun r => r = eR x0 := by
  obtain ⟨n, rfl⟩ := Int.eq_ofNat_of_zero_le h0
  have hn : n < 18446744073709551616 := by omega
  obtain ⟨o1, e1⟩ := gpart (a := 0) (d := 4) hn (by decide) (by decide) (by decide)
  obtain ⟨o2, e2⟩ := gpart (a := 4) (d := 24) hn (by decide) (by decide) (by decide)
  obtain ⟨o3, e3⟩ := gpart (a := 28) (d := 16) hn (by decide) (by decide) (by decide)
  have e1 : r_gPart_0 0 4 (n : Int) = eK n := e1.trans (eK_nat n)
  have e2 : r_gPart_0 4 24 (n : Int) = eV n := e2.trans (eV_nat n)
  have e3 : r_gPart_0 28 16 (n : Int) = eL n := e3.trans (eL_nat n)
  unfold T_gEOf
  rw [e1, e2, e3]
  exact brT o1 (brT o2 (brT o3 e_fin))
theorem t_rEOf {x0 : Int} (h0 : 0 ≤ x0) (h1 : x0 < 18446744073709551616) : (T_rEOf x0).sat fun r => r = eR x0 := by
  obtain ⟨n, rfl⟩ := Int.eq_ofNat_of_zero_le h0
  have hn : n < 18446744073709551616 := by omega
  obtain ⟨o1, e1⟩ := rpart (a := 0) (d := 4) hn (by decide) (by decide) (by decide)
  obtain ⟨o2, e2⟩ := rpart (a := 4) (d := 24) hn (by decide) (by decide) (by decide)
  obtain ⟨o3, e3⟩ := rpart (a := 28) (d := 16) hn (by decide) (by decide) (by decide)
  have e1 : IntKind.wrap IntKind.i64 (r_rField_0 (n : Int) 0 4) = eK n := e1.trans (eK_nat n)
  have e2 : IntKind.wrap IntKind.i64 (r_rField_0 (n : Int) 4 24) = eV n := e2.trans (eV_nat n)
  have e3 : IntKind.wrap IntKind.i64 (r_rField_0 (n : Int) 28 16) = eL n := e3.trans (eL_nat n)
  unfold T_rEOf
  rw [e1, e2, e3]
  exact brT o1 (brT o2 (brT o3 e_fin))

theorem h_gEOf : ∀ l r, (F2_EOf l).val = some r → ∃ r', ((call Try.prog Γ_SW y_gEOf noLoops 100 Try.f32 (mkV ish_gEOf l) (mkH ish_gEOf l)).bind (leafO 0 osh_gEOf)).val = some r' ∧ AtsEq r' r := by
  intro l r h
  obtain ⟨hc, h⟩ := guard_val h
  have := val_ok h
  subst this
  have hc := of_decide_eq_true hc
  obtain ⟨r', h1, h2⟩ := t_gEOf hc.1 hc.2
  exact ⟨r', by rw [e_gEOf]; exact h1, by rw [h2]; exact AtsEq.refl _⟩
theorem s2_gEOf : SpecF Try.prog 32 (.pure (locP ish_gEOf osh_gEOf F2_EOf)) :=
  spec_locP (sy := y_gEOf) (fuel := 100) (Lp := noLoops) o_SW mixed ⟨Try.func32, by kernel_rfl, by kernel_rfl⟩ ish_gEOf osh_gEOf rfl (noLoops_ok _) h_gEOf

theorem h_rEOf : ∀ l r, (F2_EOf l).val = some r → ∃ r', ((call Try.prog Γ_gEOf y_rEOf noLoops 100 Try.f33 (mkV ish_rEOf l) (mkH ish_rEOf l)).bind (leafO 0 osh_rEOf)).val = some r' ∧ AtsEq r' r := by
  intro l r h
  obtain ⟨hc, h⟩ := guard_val h
  have := val_ok h
  subst this
  have hc := of_decide_eq_true hc
  obtain ⟨r', h1, h2⟩ := t_rEOf hc.1 hc.2
  exact ⟨r', by rw [e_rEOf]; exact h1, by rw [h2]; exact AtsEq.refl _⟩
theorem s2_rEOf : SpecF Try.prog 33 (.pure (locP ish_rEOf osh_rEOf F2_EOf)) :=
  spec_locP (sy := y_rEOf) (fuel := 100) (Lp := noLoops) o_gEOf mixed ⟨Try.func33, by kernel_rfl, by kernel_rfl⟩ ish_rEOf osh_rEOf rfl (noLoops_ok _) h_rEOf
def Γ_SE : Specs := upd (upd Γ_rEOf 32 (.pure (locP ish_gEOf osh_gEOf F2_EOf))) 33 (.pure (locP ish_rEOf osh_rEOf F2_EOf))
theorem o_SE : SpecOK Try.prog Γ_SE := SpecOK.upd (SpecOK.upd o_rEOf s2_gEOf) s2_rEOf
end Go.Proofs.Ytobikddlkoibjaa.G
end
