/-
  What functions of the seat compute, printed by a program from the explorer.
-/
import Derived.Test.YthgagehgiooklaaRows
import Derived.Test.YthgagehgiooklaaAn8ToAnR
import Derived.KernelRfl
section
namespace Go.Proofs.Ythgagehgiooklaa.G
open Go Go.AM Go.Proofs
theorem mixed : Try.prog.follows .mixedOrders = true := by kernel_rfl
/-! ### kind -/

def ish_kind : FSh := ⟨[.v false [.k (.n .i64)], .v false [.k (.n .i64)]], []⟩
def osh_kind : FSh := ⟨[.v false [.k (.n .i64)]], []⟩
def T_kind (x0 : Int) (x1 : Int) : Tr (List At) :=
 .br 6 (Decidable.decide (x0 < (0 : Int)))
 (.br 12 (x1 != (0 : Int))
 (.ok [(.i (Int.tmod (Go.IntKind.wrap Go.IntKind.i64 ((0 : Int) - Go.IntKind.wrap Go.IntKind.i64 (x0 + (1 : Int)))) x1))])
 (.no))
 (.br 12 (x1 != (0 : Int))
 (.ok [(.i (Int.tmod x0 x1))])
 (.no))
def y_kind : Nat → Option Nat := (syOf3 [6, 12] [] [])
def TL_kind (l : List At) : Tr (List At) := T_kind (aI l 0) (aI l 1)
theorem e_kind (l : List At) : (call Try.prog noSpecs y_kind noLoops 100 Try.f14 (mkV ish_kind l) (mkH ish_kind l)).bind (leafO 0 osh_kind) = TL_kind l := by kernel_rfl
def r_kind_0 (x0 : Int) (x1 : Int) : Int :=
  bif Decidable.decide (x0 < (0 : Int)) then (bif x1 != (0 : Int) then (Int.tmod (Go.IntKind.wrap Go.IntKind.i64 ((0 : Int) - Go.IntKind.wrap Go.IntKind.i64 (x0 + (1 : Int)))) x1)
  else 0)
  else bif x1 != (0 : Int) then (Int.tmod x0 x1)
  else 0
def ok_kind (x0 : Int) (x1 : Int) : Bool :=
  bif Decidable.decide (x0 < (0 : Int)) then (bif x1 != (0 : Int) then (true)
  else false)
  else bif x1 != (0 : Int) then (true)
  else false
def F_kind : List At → Tr (List At) := fun l => .br 0 (ok_kind (aI l 0) (aI l 1)) (.ok [.i (r_kind_0 (aI l 0) (aI l 1))]) .no
theorem s_kind : SpecF Try.prog 14 (.pure (locP ish_kind osh_kind F_kind)) :=
  spec_locP (sy := y_kind) (fuel := 100) (Lp := noLoops) noSpecs_ok mixed ⟨Try.func14, by kernel_rfl, by kernel_rfl⟩ ish_kind osh_kind rfl (noLoops_ok _) (hT_merged [.i] e_kind (fun l => by kernel_rfl) (fun l => by kernel_rfl))
def Γ_kind : Specs := upd noSpecs 14 (.pure (locP ish_kind osh_kind F_kind))
theorem o_kind : SpecOK Try.prog Γ_kind := SpecOK.upd noSpecs_ok s_kind

/-! ### step -/

def ish_step : FSh := ⟨[.v false [.p 0 0]], [.cells [.opq 1, .k .b, .k .b, .k (.n .i64), .k (.n .i64)], .no]⟩
def osh_step : FSh := ⟨[.v false [.k (.n .i64)]], [.cells [.opq 1, .k .b, .k .b, .k (.n .i64), .k (.n .i64)], .no]⟩
def T_step (x0 : Bool) (x1 : Bool) (x2 : Int) (x3 : Int) : Tr (List At) :=
 .br 7 (x1)
 (.br 13 (x2 == (0 : Int))
 (.br 20 (Bool.true)
 (.ok [(.i ((4 : Int))), (.b (Bool.true)), (.b (x1)), (.i (x2)), (.i (x3))])
 (.br 24 (x1)
 (.ok [(.i ((0 : Int))), (.b (Bool.true)), (.b (x1)), (.i (Go.IntKind.wrap Go.IntKind.i64 (x2 - (1 : Int)))), (.i (Go.IntKind.wrap Go.IntKind.i64 (x3 + (1 : Int))))])
 (.ok [(.i ((0 : Int))), (.b (Bool.true)), (.b (x1)), (.i (x2)), (.i (Go.IntKind.wrap Go.IntKind.i64 (x3 + (1 : Int))))])))
 (.br 20 (x0)
 (.ok [(.i ((4 : Int))), (.b (x0)), (.b (x1)), (.i (x2)), (.i (x3))])
 (.br 24 (x1)
 (.ok [(.i ((0 : Int))), (.b (x0)), (.b (x1)), (.i (Go.IntKind.wrap Go.IntKind.i64 (x2 - (1 : Int)))), (.i (Go.IntKind.wrap Go.IntKind.i64 (x3 + (1 : Int))))])
 (.ok [(.i ((0 : Int))), (.b (x0)), (.b (x1)), (.i (x2)), (.i (Go.IntKind.wrap Go.IntKind.i64 (x3 + (1 : Int))))]))))
 (.br 20 (x0)
 (.ok [(.i ((4 : Int))), (.b (x0)), (.b (x1)), (.i (x2)), (.i (x3))])
 (.br 24 (x1)
 (.ok [(.i ((0 : Int))), (.b (x0)), (.b (x1)), (.i (Go.IntKind.wrap Go.IntKind.i64 (x2 - (1 : Int)))), (.i (Go.IntKind.wrap Go.IntKind.i64 (x3 + (1 : Int))))])
 (.ok [(.i ((0 : Int))), (.b (x0)), (.b (x1)), (.i (x2)), (.i (Go.IntKind.wrap Go.IntKind.i64 (x3 + (1 : Int))))])))
def y_step : Nat → Option Nat := (syOf3 [7, 13, 20, 24] [] [])
def TL_step (l : List At) : Tr (List At) := T_step (aB l 0) (aB l 1) (aI l 2) (aI l 3)
theorem e_step (l : List At) : (call Try.prog Γ_kind y_step noLoops 100 Try.f32 (mkV ish_step l) (mkH ish_step l)).bind (leafO 2 osh_step) = TL_step l := by kernel_rfl
def F_step : List At → Tr (List At) := TL_step
theorem s_step : SpecF Try.prog 32 (.eff (locF ish_step osh_step F_step)) :=
  spec_loc (sy := y_step) (fuel := 100) (Lp := noLoops) o_kind mixed ⟨Try.func32, by kernel_rfl, by kernel_rfl⟩ ish_step osh_step (noLoops_ok _) (hT_ways e_step)
def Γ_step : Specs := upd Γ_kind 32 (.eff (locF ish_step osh_step F_step))
theorem o_step : SpecOK Try.prog Γ_step := SpecOK.upd o_kind s_step

/-! ### at -/

def ish_at : FSh := ⟨[.v false [.p 0 0], .v false [.k (.n .i64)]], [.roc [.sw 1 25, .k .b, .k .b, .k (.n .i64), .k (.n .i64)], .nrows [.n .u64, .n .u64, .n .u64, .n .u64, .n .u64, .n .u64, .n .u64, .n .u64, .n .u64, .n .u64, .n .u64, .n .u64, .n .u64, .n .u64, .n .u64, .n .u64, .n .i64, .n .i64, .n .i64, .n .i64, .n .i64, .n .i64, .n .i64, .n .i64, .n .i64] 16 [.n .i64, .n .u64] 2 false false, .no]⟩
def oshs_at : List FSh := [⟨[.v false [.pr 1 25 0]], [.no, .no, .no]⟩, ⟨[.v false [.pnil]], [.no, .no, .no]⟩]
def T_at (x0 : Int) (x1 : Bool) (x2 : Bool) (x3 : Int) (x4 : Int) (n5 : Nat) (g5 : Nat → Nat → Int) (h5 : Nat → Nat → Int) : Tr (Nat × List At) :=
 .br 7 (Decidable.decide (x0 < (0 : Int)))
 (.ok ((1 : Nat), []))
 (.br 15 (Decidable.decide (x0 ≥ (↑n5 : Int)))
 (.ok ((1 : Nat), []))
 (.br 21 (Go.AM.within x0 n5)
 (.ok ((0 : Nat), [(.n (Int.toNat x0))]))
 (.no)))
def y_at : Nat → Option Nat := (syOf3 [7, 15, 21] [] [])
def TL_at (l : List At) : Tr (Nat × List At) := T_at (aI l 0) (aB l 1) (aB l 2) (aI l 3) (aI l 4) (aRn l 5) (aRg l 5) (aMh l 5 16 2)
theorem e_at (l : List At) : (call Try.prog Γ_step y_at noLoops 100 Try.f31 (mkV ish_at l) (mkH ish_at l)).bind (leafOs 3 0 oshs_at) = TL_at l := by kernel_rfl
def F_at : List At → Tr (Nat × List At) := TL_at
theorem s_at : SpecF Try.prog 31 (.eff (locFs ish_at oshs_at F_at)) :=
  spec_locs (sy := y_at) (fuel := 100) (Lp := noLoops) o_step mixed ⟨Try.func31, by kernel_rfl, by kernel_rfl⟩ ish_at oshs_at (noLoops_ok _) (hT_waysS e_at)
def Γ_at : Specs := upd Γ_step 31 (.eff (locFs ish_at oshs_at F_at))
theorem o_at : SpecOK Try.prog Γ_at := SpecOK.upd o_step s_at

end Go.Proofs.Ythgagehgiooklaa.G
end

/-
  A memory's lines, in plain words: rows of 25 numbers (8 now, 8 sure, how many stores are not sure, 8 flushed), and the stores.
-/
section
namespace Go.Proofs.Ythgagehgiooklaa.G
open Go Go.AM Go.Proofs

/-- 'm' stores from the 'a'-th on, done to words. -/
def apF (s hr : Nat → Int) : (a m : Nat) → Nat → Int
  | _, 0 => s
  | a, m + 1 => apF (fun w => if w = (hr (a * 2)).toNat then hr (a * 2 + 1) else s w) hr (a + 1) m

theorem apF_succ {hr : Nat → Int} : ∀ (m a : Nat) (s : Nat → Int), apF s hr a (m + 1) = fun w => if w = (hr ((a + m) * 2)).toNat then hr ((a + m) * 2 + 1) else apF s hr a m w
  | 0, a, s => rfl
  | m + 1, a, s => by
    rw [apF, apF_succ m (a + 1), show a + 1 + m = a + (m + 1) by omega]
    rfl

theorem apF_congr {s s' hr hr' : Nat → Int} (hs : ∀ w, s w = s' w) : ∀ (m a : Nat), (∀ k, a ≤ k → k < a + m → hr (k * 2) = hr' (k * 2) ∧ hr (k * 2 + 1) = hr' (k * 2 + 1)) → apF s hr a m = apF s' hr' a m := by
  intro m
  induction m generalizing s s' with
  | zero => intro a _; exact funext hs
  | succ m ih =>
    intro a h
    obtain ⟨h1, h2⟩ := h a (Nat.le_refl _) (by omega)
    rw [apF, apF]
    exact ih (fun w => by rw [h1, h2, hs]) (a + 1) (fun k h3 h4 => h k (by omega) (by omega))

theorem apF_add {hr : Nat → Int} : ∀ (m k a : Nat) (s : Nat → Int), apF s hr a (m + k) = apF (apF s hr a m) hr (a + m) k
  | 0, k, a, s => by rw [Nat.zero_add]; rfl
  | m + 1, k, a, s => by
    rw [show m + 1 + k = (m + k) + 1 by omega, apF, apF_add m k (a + 1), apF, show a + 1 + m = a + (m + 1) by omega]

theorem apF_shift {hr : Nat → Int} (d : Nat) : ∀ (m a : Nat) (s : Nat → Int), apF s (fun k => hr (k + 2 * d)) a m = apF s hr (a + d) m
  | 0, _, _ => rfl
  | m + 1, a, s => by
    rw [apF, apF, apF_shift d m (a + 1), show a * 2 + 2 * d = (a + d) * 2 by omega, show a * 2 + 1 + 2 * d = (a + d) * 2 + 1 by omega, show a + 1 + d = a + d + 1 by omega]

/-- Another row. -/
def updR {α : Type} (g : Nat → α) (i : Nat) (r : α) : Nat → α := fun i' => if i' = i then r else g i'
theorem updR_self {α : Type} {g : Nat → α} {i : Nat} {r : α} : updR g i r i = r := if_pos rfl
theorem updR_ne {α : Type} {g : Nat → α} {i j : Nat} {r : α} (h : j ≠ i) : updR g i r j = g j := if_neg h
theorem updG_row (g : Nat → Nat → Int) (i c : Nat) (x : Int) : updG g i c x = updR g i (fun c' => if c' = c then x else g i c') := by
  funext i' c'
  unfold updG updR
  by_cases h : i' = i
  · subst h; rw [if_pos rfl, if_pos rfl]
  · rw [if_neg h, if_neg h]; split <;> rfl
theorem updR_updR {α : Type} {g : Nat → α} {i : Nat} {r r' : α} : updR (updR g i r) i r' = updR g i r' := by
  funext j; unfold updR; split <;> rfl
theorem updR_id {α : Type} {g : Nat → α} {i : Nat} : updR g i (g i) = g := by
  funext j; unfold updR; split
  · rename_i h; rw [h]
  · rfl

/-- A row with other sure words. -/
def putS (r s : Nat → Int) : Nat → Int := fun c => if 8 ≤ c ∧ c < 16 then s (c - 8) else r c
/-- The sure words. -/
def sur (r : Nat → Int) : Nat → Int := fun w => r (8 + w)

/-- A row whose first 'n' stores became sure; its stores. -/
def rowS (r hr : Nat → Int) (n : Nat) : Nat → Int := fun c =>
  if c = 16 then r 16 - n else if 17 ≤ c ∧ c < 25 then (if r c - n > 0 then r c - n else 0) else putS r (apF (sur r) hr 0 n) c
def hS (hr : Nat → Int) (n : Nat) : Nat → Int := fun k => hr (k + 2 * n)

/-- A row that may be. -/
def RowOk (r hr : Nat → Int) : Prop := 0 ≤ r 16 ∧ r 16 ≤ 1000000 ∧ (∀ c, 17 ≤ c → c < 25 → 0 ≤ r c ∧ r c ≤ r 16) ∧ ∀ k : Nat, (k : Int) < r 16 → 0 ≤ hr (k * 2) ∧ hr (k * 2) < 8

theorem rowOk_mk {r hr : Nat → Int} {n : Nat} (h : RowOk r hr) (hn : (n : Int) ≤ r 16) : RowOk (rowS r hr n) (hS hr n) := by
  obtain ⟨h1, h2, h3, h4⟩ := h
  have e : rowS r hr n 16 = r 16 - n := by unfold rowS; rw [if_pos rfl]
  refine ⟨by omega, by omega, fun c h5 h6 => ?_, fun k hk => ?_⟩
  · rw [e]
    have := h3 c h5 h6
    unfold rowS
    rw [if_neg (by omega), if_pos ⟨h5, h6⟩]
    split <;> omega
  · rw [e] at hk
    unfold hS
    rw [show k * 2 + 2 * n = (k + n) * 2 by omega]
    exact h4 (k + n) (by omega)

noncomputable def pdec (p : Prop) : Bool := @decide p (Classical.propDecidable p)
theorem of_pdec {p : Prop} (h : pdec p = true) : p := by unfold pdec at h; exact @of_decide_eq_true p (Classical.propDecidable p) h
theorem pdec_yes {p : Prop} (h : p) : pdec p = true := by unfold pdec; exact @decide_eq_true p (Classical.propDecidable p) h
theorem wrap_i64 {x : Int} (h1 : -9223372036854775808 ≤ x) (h2 : x ≤ 9223372036854775807) : IntKind.i64.wrap x = x := by rw [IntKind.wrap_i64]; omega
theorem atEq_q {n n' c0 wd : Nat} {g g' h h' : Nat → Nat → Int} (hn : n = n') (hg : ∀ i, i < n → ∀ c, g i c = g' i c) (hh : ∀ i, i < n → ∀ k, k < (g i c0).toNat * wd → h i k = h' i k) : AtEq (.q n g c0 wd h) (.q n' g' c0 wd h') := ⟨hn, rfl, rfl, hg, hh⟩
theorem atEq_qe {n c0 wd : Nat} {g g' h h' : Nat → Nat → Int} (hg : g = g') (hh : h = h') : AtEq (.q n g c0 wd h) (.q n g' c0 wd h') := by subst hg; subst hh; exact AtEq.refl _
end Go.Proofs.Ythgagehgiooklaa.G
end

/-
  A step of the memory, in plain words.
-/
section
namespace Go.Proofs.Ythgagehgiooklaa.G
open Go Go.AM Go.Proofs

/-- Is the power off when a step is to be done? -/
def offB (off burns : Bool) (left : Int) : Bool := off || (burns && (left == 0))
def leftI (off burns : Bool) (left : Int) : Int := bif (!(offB off burns left)) && burns then left - 1 else left
def stepsI (off burns : Bool) (left steps : Int) : Int := bif offB off burns left then steps else steps + 1
def codeI (off burns : Bool) (left : Int) : Int := bif offB off burns left then 4 else 0
def StOk (left steps : Int) : Prop := 0 ≤ left ∧ left ≤ 9223372036854775807 ∧ 0 ≤ steps ∧ steps ≤ 1000000000

noncomputable def F2_step (l : List At) : Tr (List At) := .br 0 (pdec (aB l 1 = true → 0 ≤ aI l 2 ∧ aI l 2 ≤ 9223372036854775807)) (.br 0 (pdec (0 ≤ aI l 3 ∧ aI l 3 ≤ 1000000000))
  (.ok [.i (codeI (aB l 0) (aB l 1) (aI l 2)), .b (offB (aB l 0) (aB l 1) (aI l 2)), .b (aB l 1), .i (leftI (aB l 0) (aB l 1) (aI l 2)), .i (stepsI (aB l 0) (aB l 1) (aI l 2) (aI l 3))]) .no) .no

theorem t_step (x0 x1 : Bool) (x2 x3 : Int) (h1 : x1 = true → 0 ≤ x2 ∧ x2 ≤ 9223372036854775807) (h3 : 0 ≤ x3 ∧ x3 ≤ 1000000000) :
    (T_step x0 x1 x2 x3).sat fun r => AtsEq r [.i (codeI x0 x1 x2), .b (offB x0 x1 x2), .b x1, .i (leftI x0 x1 x2), .i (stepsI x0 x1 x2 x3)] := by
  have w3 : IntKind.i64.wrap (x3 + 1) = x3 + 1 := wrap_i64 (by omega) (by omega)
  unfold T_step codeI leftI stepsI offB
  rw [w3]
  cases x1 with
  | false =>
    refine brF rfl ?_
    cases x0 with
    | false => exact brF rfl (brF rfl (Tr.sat_ok.2 (AtsEq.refl _)))
    | true => exact brT rfl (Tr.sat_ok.2 (AtsEq.refl _))
  | true =>
    obtain ⟨a, b⟩ := h1 rfl
    refine brT rfl ?_
    by_cases h : x2 = 0
    · subst h
      refine brT rfl (brT rfl (Tr.sat_ok.2 ?_))
      cases x0 <;> exact AtsEq.refl _
    · have hb : (x2 == 0) = false := by simpa using h
      rw [hb, wrap_i64 (x := x2 - 1) (by omega) (by omega)]
      refine brF rfl ?_
      cases x0 with
      | false => exact brF rfl (brT rfl (Tr.sat_ok.2 (AtsEq.refl _)))
      | true => exact brT rfl (Tr.sat_ok.2 (AtsEq.refl _))

theorem s2_step : SpecF Try.prog 32 (.eff (locF ish_step osh_step F2_step)) :=
  spec_loc (sy := y_step) (fuel := 100) (Lp := noLoops) o_kind mixed ⟨Try.func32, by kernel_rfl, by kernel_rfl⟩ ish_step osh_step (noLoops_ok _) (hT_of e_step fun l r h => by
    obtain ⟨h1, h⟩ := guard_val h
    obtain ⟨h3, h⟩ := guard_val h
    have := val_ok h
    subst this
    exact t_step _ _ _ _ (of_pdec h1) (of_pdec h3))
noncomputable def Γ_S1 : Specs := upd Γ_at 32 (.eff (locF ish_step osh_step F2_step))
theorem o_S1 : SpecOK Try.prog Γ_S1 := SpecOK.upd o_at s2_step
end Go.Proofs.Ythgagehgiooklaa.G
end

/-
  A copy of a slice: nil of nil, else a new row.
-/
section
namespace Go.Proofs.Ythgagehgiooklaa.G
open Go Go.AM Go.Proofs

theorem appG_zero {g0 src : Nat → Nat → Int} : appG g0 0 src = src := by funext i c; simp [appG]

def ish_cl : FSh := ⟨[.v false [.vw 0 2]], [.rows [.n .i64, .n .u64] false]⟩
def osh_cl : FSh := ⟨[.v false [.sw 1 2]], [.no, .rows [.n .i64, .n .u64] true]⟩
def F_cl (l : List At) : Tr (List At) := .br 0 (decide (aRn l 0 ≤ 1073741824)) (.ok [.r (aRn l 0) (aRg l 0)]) .no
theorem eZ_cl (l : List At) : (call Try.prog Γ_S1 (syOf3 [7] [] []) noLoops 100 Try.f37 [.v (.s (.slz 0 2 0 (aRn l 0)))] (mkH ish_cl l)).bind (leafO 1 osh_cl) =
    .br 7 (decide (aRn l 0 ≤ 1073741824)) (.ok [.r (aRn l 0) (fun j c => aRg l 0 (0 + j) c)]) .no := by kernel_rfl
theorem eN_cl (l : List At) : (call Try.prog Γ_S1 (syOf3 [7] [] []) noLoops 100 Try.f37 [.v (.s .slnil)] (mkH ish_cl l)).bind (leafO 1 osh_cl) = .ok [.r 0 fun _ _ => 0] := by kernel_rfl
theorem s_cl : SpecF Try.prog 37 (.eff (locF ish_cl osh_cl F_cl)) := by
  refine spec_fork (sy := syOf3 [7] [] []) (sy' := syOf3 [7] [] []) (fuel := 100) (Lp := noLoops) o_S1 mixed ⟨Try.func37, by kernel_rfl, by kernel_rfl⟩ 2 [.n .i64, .n .u64] osh_cl (noLoops_ok _) (fun l r h => ?_) (fun l r h h0 => ?_)
  · obtain ⟨hc, h⟩ := guard_val h
    have hr := val_ok h
    subst hr
    refine ⟨_, by rw [show mkH ⟨[.v false [.vw 0 2]], [.rows [.n .i64, .n .u64] false]⟩ l = mkH ish_cl l from rfl, eZ_cl l]; exact br_t hc, ?_⟩
    exact atsEq_cons (atEq_r rfl (fun i _ c => by rw [Nat.zero_add])) atsEq_nil
  · obtain ⟨hc, h⟩ := guard_val h
    have hr := val_ok h
    subst hr
    refine ⟨_, by rw [show mkH ⟨[.v false [.vw 0 2]], [.rows [.n .i64, .n .u64] false]⟩ l = mkH ish_cl l from rfl, eN_cl l]; rfl, ?_⟩
    exact atsEq_cons (atEq_r h0.symm (fun i hi c => by omega)) atsEq_nil
noncomputable def Γ_cl : Specs := upd Γ_S1 37 (.eff (locF ish_cl osh_cl F_cl))
theorem o_cl : SpecOK Try.prog Γ_cl := SpecOK.upd o_S1 s_cl
end Go.Proofs.Ythgagehgiooklaa.G
end

/-
  What functions of the seat compute, printed by a program from the explorer.
-/
section
namespace Go.Proofs.Ythgagehgiooklaa.G
open Go Go.AM Go.Proofs
/-! ### the loop at 1 of mkS -/

noncomputable def lsh_mkS_1 : FSh := ⟨[.v false [.pr 0 25 0], .v false [.k (.n .i64)], .any, .any, .any, .any, .any, .any, .any, .any, .any, .any, .v false [.ms 0 1 2], .v false [.k (.n .i64)], .v false [.k (.n .i64)], .any, .any, .any, .any, .any, .any, .any, .any, .any, .any, .any, .any, .any, .any, .any, .any, .any, .any, .any, .any, .any, .any, .any, .any, .any, .any, .any, .any, .any, .any, .any, .any, .any, .any, .any, .any, .any, .any, .any, .any], [.nrows [.n .u64, .n .u64, .n .u64, .n .u64, .n .u64, .n .u64, .n .u64, .n .u64, .n .u64, .n .u64, .n .u64, .n .u64, .n .u64, .n .u64, .n .u64, .n .u64, .n .i64, .n .i64, .n .i64, .n .i64, .n .i64, .n .i64, .n .i64, .n .i64, .n .i64] 16 [.n .i64, .n .u64] 1 false true, .no]⟩
noncomputable def xsh_mkS_1_0 : FSh := ⟨[.v false [.pr 0 25 0], .v false [.k (.n .i64)], .any, .any, .any, .any, .any, .any, .any, .any, .any, .any, .any, .any, .any, .any, .any, .any, .any, .any, .any, .any, .any, .any, .any, .any, .any, .any, .any, .any, .any, .any, .any, .any, .any, .any, .any, .any, .any, .any, .any, .any, .any, .any, .any, .any, .any, .any, .any, .any, .any, .any, .any, .any, .any], [.nrows [.n .u64, .n .u64, .n .u64, .n .u64, .n .u64, .n .u64, .n .u64, .n .u64, .n .u64, .n .u64, .n .u64, .n .u64, .n .u64, .n .u64, .n .u64, .n .u64, .n .i64, .n .i64, .n .i64, .n .i64, .n .i64, .n .i64, .n .i64, .n .i64, .n .i64] 16 [.n .i64, .n .u64] 1 false true, .no]⟩
noncomputable def xs_mkS_1 : Exs := fun e => match e with
  | .normal => some lsh_mkS_1
  | .exit n => (match Nat.beq n 0 with | true => some xsh_mkS_1_0 | false => none)
  | .ret => none
noncomputable def B_mkS_1 (x0 : Nat) (x1 : Int) (x2 : Nat) (x3 : Nat) (x4 : Nat) (x5 : Int) (x6 : Int) (n7 : Nat) (g7 : Nat → Nat → Int) (h7 : Nat → Nat → Int) : Tr (Ex × List At) :=
 .br 15 (Decidable.decide (x6 < x5))
 (.br 16 (Go.AM.within x6 x4)
 (.br 200025 (Go.AM.within (h7 x2 ((x3 + Int.toNat x6) * (2 : Nat) + (0 : Nat))) (8 : Nat))
 (.ok (.normal, [(.n (x0)), (.i (x1)), (.n (x2)), (.n (x3)), (.n (x4)), (.i (x5)), (.i (Go.IntKind.wrap Go.IntKind.i64 (x6 + (1 : Int)))), (.q (n7) (Go.AM.updG g7 x0 ((8 : Nat) + Int.toNat (h7 x2 ((x3 + Int.toNat x6) * (2 : Nat) + (0 : Nat))) * (1 : Nat)) (h7 x2 ((x3 + Int.toNat x6) * (2 : Nat) + (1 : Nat)))) ((16 : Nat)) ((2 : Nat)) (h7))]))
 (.no))
 (.no))
 (.ok (.exit 0, [(.n (x0)), (.i (x1)), (.q (n7) (g7) ((16 : Nat)) ((2 : Nat)) (h7))]))
noncomputable def y_mkS_1 : Nat → Option Nat := (syOf3 [15, 16] [] [25])
noncomputable def BL_mkS_1 (l : List At) : Tr (Ex × List At) := B_mkS_1 (aN l 0) (aI l 1) (aN l 2) (aN l 3) (aN l 4) (aI l 5) (aI l 6) (aRn l 7) (aRg l 7) (aMh l 7 16 2)
theorem eB_mkS_1 (l : List At) : (exec Try.prog Γ_cl y_mkS_1 noLoops 100 (loopAt Try.f33 1) ⟨mkV lsh_mkS_1 l, mkH lsh_mkS_1 l⟩).bind (leafL 2 xs_mkS_1) = BL_mkS_1 l := by kernel_rfl
/- by hand: O_mkS_1 (x0 : Nat) (x1 : Int) (x2 : Nat) (x3 : Nat) (x4 : Nat) (x5 : Int) (x6 : Int) (n7 : Nat) (g7 : Nat → Nat → Int) (h7 : Nat → Nat → Int) : Tr (Ex × List At); OL_mkS_1 (l) := O_mkS_1 (aN l 0) (aI l 1) (aN l 2) (aN l 3) (aN l 4) (aI l 5) (aI l 6) (aRn l 7) (aRg l 7) (aMh l 7 16 2); μ_mkS_1 : List At → Nat; rd_mkS_1 : ∀ l r, (OL_mkS_1 l).val = some r → RoundA BL_mkS_1 OL_mkS_1 μ_mkS_1 l r -/

end Go.Proofs.Ythgagehgiooklaa.G
end

/-
  The first loop of makeSure: the stores become sure.
-/
section
namespace Go.Proofs.Ythgagehgiooklaa.G
open Go Go.AM Go.Proofs

def pre1 (x2 x3 x4 : Nat) (x5 x6 : Int) (h7 : Nat → Nat → Int) : Prop :=
  0 ≤ x6 ∧ x6 ≤ x5 ∧ x5 = x4 ∧ x5 ≤ 1000000 ∧ ∀ k : Nat, x6 ≤ k → (k : Int) < x5 → 0 ≤ h7 x2 ((x3 + k) * 2) ∧ h7 x2 ((x3 + k) * 2) < 8

noncomputable def O_mkS_1 (x0 : Nat) (x1 : Int) (x2 x3 x4 : Nat) (x5 x6 : Int) (n7 : Nat) (g7 h7 : Nat → Nat → Int) : Tr (Ex × List At) :=
  .br 0 (pdec (pre1 x2 x3 x4 x5 x6 h7)) (.ok (.exit 0, [.n x0, .i x1, .q n7 (updR g7 x0 (putS (g7 x0) (apF (sur (g7 x0)) (h7 x2) (x3 + x6.toNat) (x5 - x6).toNat))) 16 2 h7])) .no
noncomputable def OL_mkS_1 (l : List At) : Tr (Ex × List At) := O_mkS_1 (aN l 0) (aI l 1) (aN l 2) (aN l 3) (aN l 4) (aI l 5) (aI l 6) (aRn l 7) (aRg l 7) (aMh l 7 16 2)
def μ_mkS_1 (l : List At) : Nat := (aI l 5 - aI l 6).toNat

theorem putS_sur (r : Nat → Int) : putS r (sur r) = r := by
  funext c; unfold putS sur
  split
  · rw [show 8 + (c - 8) = c by omega]
  · rfl

theorem rd_mkS_1 : ∀ l r, (OL_mkS_1 l).val = some r → RoundS BL_mkS_1 OL_mkS_1 μ_mkS_1 l r := by
  intro l r h
  obtain ⟨hc, h⟩ := guard_val h
  obtain ⟨c0, c1, c2, c3, c4⟩ := of_pdec hc
  have hr := val_ok h
  unfold RoundS BL_mkS_1 B_mkS_1
  generalize hx0 : aN l 0 = x0 at *
  generalize hx2 : aN l 2 = x2 at *
  generalize hx3 : aN l 3 = x3 at *
  generalize hx4 : aN l 4 = x4 at *
  generalize hx5 : aI l 5 = x5 at *
  generalize hx6 : aI l 6 = x6 at *
  generalize hg : aRg l 7 = g at *
  generalize hh : aMh l 7 16 2 = hm at *
  refine brD (fun h1 => brW (fun _ => ?_) (fun hh => by exfalso; omega)) (fun h1 => ?_)
  · obtain ⟨w0, w1⟩ := c4 x6.toNat (by omega) (by omega)
    refine brT (by simp [within]; omega) ?_
    have hw : IntKind.i64.wrap (x6 + 1) = x6 + 1 := wrap_i64 (by omega) (by omega)
    rw [hw]
    have hq : pre1 x2 x3 x4 x5 (x6 + 1) hm := ⟨by omega, by omega, c2, c3, fun k hk1 hk2 => c4 k (by omega) hk2⟩
    have hμ : (x5 - (x6 + 1)).toNat < μ_mkS_1 l := by unfold μ_mkS_1; rw [hx5, hx6]; omega
    have key : updR (updG g x0 (8 + Int.toNat (hm x2 ((x3 + x6.toNat) * 2 + 0)) * 1) (hm x2 ((x3 + x6.toNat) * 2 + 1))) x0 (putS (updG g x0 (8 + Int.toNat (hm x2 ((x3 + x6.toNat) * 2 + 0)) * 1) (hm x2 ((x3 + x6.toNat) * 2 + 1)) x0) (apF (sur (updG g x0 (8 + Int.toNat (hm x2 ((x3 + x6.toNat) * 2 + 0)) * 1) (hm x2 ((x3 + x6.toNat) * 2 + 1)) x0)) (hm x2) (x3 + (x6 + 1).toNat) (x5 - (x6 + 1)).toNat)) =
            updR g x0 (putS (g x0) (apF (sur (g x0)) (hm x2) (x3 + x6.toNat) (x5 - x6).toNat)) := by
          have e1 : (x5 - x6).toNat = (x5 - (x6 + 1)).toNat + 1 := by omega
          have e2 : x3 + (x6 + 1).toNat = x3 + x6.toNat + 1 := by omega
          rw [e1, apF, e2, updG_row, updR_updR, updR_self, Nat.add_zero, Nat.mul_one]
          have e3 : sur (fun c' => if c' = 8 + Int.toNat (hm x2 ((x3 + x6.toNat) * 2)) then hm x2 ((x3 + x6.toNat) * 2 + 1) else g x0 c') = fun w => if w = Int.toNat (hm x2 ((x3 + x6.toNat) * 2)) then hm x2 ((x3 + x6.toNat) * 2 + 1) else sur (g x0) w := by
            funext w
            show (if 8 + w = 8 + Int.toNat (hm x2 ((x3 + x6.toNat) * 2)) then hm x2 ((x3 + x6.toNat) * 2 + 1) else g x0 (8 + w)) = if w = Int.toNat (hm x2 ((x3 + x6.toNat) * 2)) then hm x2 ((x3 + x6.toNat) * 2 + 1) else g x0 (8 + w)
            by_cases hw : w = Int.toNat (hm x2 ((x3 + x6.toNat) * 2))
            · rw [if_pos (by omega), if_pos hw]
            · rw [if_neg (by omega), if_neg hw]
          have e4 : ∀ s, putS (fun c' => if c' = 8 + Int.toNat (hm x2 ((x3 + x6.toNat) * 2)) then hm x2 ((x3 + x6.toNat) * 2 + 1) else g x0 c') s = putS (g x0) s := by
            intro s
            funext c
            unfold putS
            by_cases hc : 8 ≤ c ∧ c < 16
            · rw [if_pos hc, if_pos hc]
            · rw [if_neg hc, if_neg hc]
              exact if_neg (by omega)
          rw [e3, e4]
    exact on_ _ r (AtsEq.refl _) hμ ((br_t (g := 0) (pdec_yes hq)).trans ((congrArg (fun q => (Tr.ok (Ex.exit 0, [At.n x0, At.i (aI l 1), At.q (aRn l 7) q 16 2 hm])).val) key).trans h)) rfl (AtsEq.refl _)
  · subst hr
    refine out_ (by simp) rfl ?_
    have : (x5 - x6).toNat = 0 := by omega
    rw [this]
    show AtsEq _ [At.n x0, At.i (aI l 1), At.q (aRn l 7) (updR g x0 (putS (g x0) (sur (g x0)))) 16 2 hm]
    rw [putS_sur, updR_id]
    exact AtsEq.refl _
end Go.Proofs.Ythgagehgiooklaa.G
end

/-
  What functions of the seat compute, printed by a program from the explorer.
-/
section
namespace Go.Proofs.Ythgagehgiooklaa.G
open Go Go.AM Go.Proofs
theorem f_mkS_1 : LoopF Try.prog 2 (loopAt Try.f33 1) (loopFn 2 lsh_mkS_1 xs_mkS_1 OL_mkS_1) :=
  loop_sat (sy := y_mkS_1) (fuel := 100) (Lp := noLoops) o_cl mixed (loopsOK_at (noLoops_ok _) 1) rfl eB_mkS_1 rd_mkS_1
noncomputable def Lp_mkS_1 : Loops := Loops.set noLoops 1 (loopFn 2 lsh_mkS_1 xs_mkS_1 OL_mkS_1)
theorem lk_mkS_1 : LoopsFn Try.prog 2 Lp_mkS_1 Try.f33 := loopsFn_set (noLoops_ok _) (by kernel_rfl) f_mkS_1

/-! ### the loop at 7 of mkS -/

noncomputable def lsh_mkS_7 : FSh := ⟨[.v false [.pr 0 25 0], .v false [.k (.n .i64)], .any, .any, .any, .any, .any, .any, .any, .any, .any, .any, .any, .any, .any, .any, .any, .any, .any, .any, .any, .any, .any, .any, .any, .any, .any, .any, .any, .any, .any, .any, .any, .any, .any, .any, .any, .v false [.k (.n .i64)], .any, .any, .any, .any, .any, .any, .any, .any, .any, .any, .any, .any, .any, .any, .any, .any, .any], [.nrows [.n .u64, .n .u64, .n .u64, .n .u64, .n .u64, .n .u64, .n .u64, .n .u64, .n .u64, .n .u64, .n .u64, .n .u64, .n .u64, .n .u64, .n .u64, .n .u64, .n .i64, .n .i64, .n .i64, .n .i64, .n .i64, .n .i64, .n .i64, .n .i64, .n .i64] 16 [.n .i64, .n .u64] 2 false true, .no, .no]⟩
noncomputable def xsh_mkS_7_0 : FSh := ⟨[.any, .any, .any, .any, .any, .any, .any, .any, .any, .any, .any, .any, .any, .any, .any, .any, .any, .any, .any, .any, .any, .any, .any, .any, .any, .any, .any, .any, .any, .any, .any, .any, .any, .any, .any, .any, .any, .any, .any, .any, .any, .any, .any, .any, .any, .any, .any, .any, .any, .any, .any, .any, .any, .any, .any], [.nrows [.n .u64, .n .u64, .n .u64, .n .u64, .n .u64, .n .u64, .n .u64, .n .u64, .n .u64, .n .u64, .n .u64, .n .u64, .n .u64, .n .u64, .n .u64, .n .u64, .n .i64, .n .i64, .n .i64, .n .i64, .n .i64, .n .i64, .n .i64, .n .i64, .n .i64] 16 [.n .i64, .n .u64] 2 false true, .no, .no]⟩
noncomputable def xs_mkS_7 : Exs := fun e => match e with
  | .normal => some lsh_mkS_7
  | .exit n => (match Nat.beq n 2 with | true => some xsh_mkS_7_0 | false => none)
  | .ret => none
noncomputable def B_mkS_7 (x0 : Nat) (x1 : Int) (x2 : Int) (n3 : Nat) (g3 : Nat → Nat → Int) (h3 : Nat → Nat → Int) : Tr (Ex × List At) :=
 .br 38 (Decidable.decide (x2 < (8 : Int)))
 (.br 200046 (Go.AM.within x2 (8 : Nat))
 (.br 200053 (Go.AM.within x2 (8 : Nat))
 (.ok (.normal, [(.n (x0)), (.i (x1)), (.i (Go.IntKind.wrap Go.IntKind.i64 (x2 + (1 : Int)))), (.q (n3) (Go.AM.updG g3 x0 ((17 : Nat) + Int.toNat x2 * (1 : Nat)) (if Go.IntKind.wrap Go.IntKind.i64 (g3 x0 ((17 : Nat) + Int.toNat x2 * (1 : Nat)) - x1) > (0 : Int) then Go.IntKind.wrap Go.IntKind.i64 (g3 x0 ((17 : Nat) + Int.toNat x2 * (1 : Nat)) - x1) else (0 : Int))) ((16 : Nat)) ((2 : Nat)) (h3))]))
 (.no))
 (.no))
 (.ok (.exit 2, [(.q (n3) (g3) ((16 : Nat)) ((2 : Nat)) (h3))]))
noncomputable def y_mkS_7 : Nat → Option Nat := (syOf3 [38] [] [46, 53])
noncomputable def BL_mkS_7 (l : List At) : Tr (Ex × List At) := B_mkS_7 (aN l 0) (aI l 1) (aI l 2) (aRn l 3) (aRg l 3) (aMh l 3 16 2)
theorem eB_mkS_7 (l : List At) : (exec Try.prog Γ_cl y_mkS_7 Lp_mkS_1 100 (loopAt Try.f33 7) ⟨mkV lsh_mkS_7 l, mkH lsh_mkS_7 l⟩).bind (leafL 2 xs_mkS_7) = BL_mkS_7 l := by kernel_rfl
/- by hand: O_mkS_7 (x0 : Nat) (x1 : Int) (x2 : Int) (n3 : Nat) (g3 : Nat → Nat → Int) (h3 : Nat → Nat → Int) : Tr (Ex × List At); OL_mkS_7 (l) := O_mkS_7 (aN l 0) (aI l 1) (aI l 2) (aRn l 3) (aRg l 3) (aMh l 3 16 2); μ_mkS_7 : List At → Nat; rd_mkS_7 : ∀ l r, (OL_mkS_7 l).val = some r → RoundA BL_mkS_7 OL_mkS_7 μ_mkS_7 l r -/

end Go.Proofs.Ythgagehgiooklaa.G
end

/-
  The second loop of makeSure: fewer stores are flushed.
-/
section
namespace Go.Proofs.Ythgagehgiooklaa.G
open Go Go.AM Go.Proofs

/-- Flushed, from the core 'a' on, by 'n' less. -/
def less (r : Nat → Int) (n : Int) (a : Nat) : Nat → Int := fun c => if 17 + a ≤ c ∧ c < 25 then (if r c - n > 0 then r c - n else 0) else r c

def pre7 (r : Nat → Int) (x1 x2 : Int) : Prop := 0 ≤ x2 ∧ x2 ≤ 8 ∧ 0 ≤ x1 ∧ x1 ≤ 1000000 ∧ ∀ c, 17 ≤ c → c < 25 → 0 ≤ r c ∧ r c ≤ 1000000

noncomputable def O_mkS_7 (x0 : Nat) (x1 x2 : Int) (n3 : Nat) (g3 h3 : Nat → Nat → Int) : Tr (Ex × List At) :=
  .br 0 (pdec (pre7 (g3 x0) x1 x2)) (.ok (.exit 2, [.q n3 (updR g3 x0 (less (g3 x0) x1 x2.toNat)) 16 2 h3])) .no
noncomputable def OL_mkS_7 (l : List At) : Tr (Ex × List At) := O_mkS_7 (aN l 0) (aI l 1) (aI l 2) (aRn l 3) (aRg l 3) (aMh l 3 16 2)
def μ_mkS_7 (l : List At) : Nat := (8 - aI l 2).toNat

theorem rd_mkS_7 : ∀ l r, (OL_mkS_7 l).val = some r → RoundS BL_mkS_7 OL_mkS_7 μ_mkS_7 l r := by
  intro l r h
  obtain ⟨hc, h⟩ := guard_val h
  obtain ⟨c0, c1, c2, c3, c4⟩ := of_pdec hc
  have hr := val_ok h
  unfold RoundS BL_mkS_7 B_mkS_7
  generalize hx0 : aN l 0 = x0 at *
  generalize hx1 : aI l 1 = x1 at *
  generalize hx2 : aI l 2 = x2 at *
  generalize hg : aRg l 3 = g at *
  generalize hh : aMh l 3 16 2 = hm at *
  refine brD (fun h1 => brW (fun _ => brW (fun _ => ?_) (fun hh => by exfalso; omega)) (fun hh => by exfalso; omega)) (fun h1 => ?_)
  · obtain ⟨k, rfl⟩ := Int.eq_ofNat_of_zero_le c0
    have hk : k < 8 := by omega
    obtain ⟨w0, w1⟩ := c4 (17 + k) (by omega) (by omega)
    rw [Int.toNat_natCast, Nat.mul_one, wrap_i64 (x := (k : Int) + 1) (by omega) (by omega), wrap_i64 (x := g x0 (17 + k) - x1) (by omega) (by omega)]
    generalize hv : (if g x0 (17 + k) - x1 > 0 then g x0 (17 + k) - x1 else 0) = v
    have hv2 : 0 ≤ v ∧ v ≤ 1000000 := by subst hv; split <;> omega
    have row : updG g x0 (17 + k) v x0 = fun c => if c = 17 + k then v else g x0 c := by rw [updG_row, updR_self]
    have hq : pre7 (updG g x0 (17 + k) v x0) x1 ((k : Int) + 1) := by
      refine ⟨by omega, by omega, c2, c3, fun c h5 h6 => ?_⟩
      rw [row]
      show 0 ≤ (if c = 17 + k then v else g x0 c) ∧ (if c = 17 + k then v else g x0 c) ≤ 1000000
      split
      · exact hv2
      · exact c4 c h5 h6
    have key : updR (updG g x0 (17 + k) v) x0 (less (updG g x0 (17 + k) v x0) x1 ((k : Int) + 1).toNat) = updR g x0 (less (g x0) x1 (k : Int).toNat) := by
      rw [updG_row, updR_updR, updR_self]
      congr 1
      funext c
      unfold less
      rw [show ((k : Int) + 1).toNat = k + 1 by omega, Int.toNat_natCast]
      by_cases h5 : 17 + (k + 1) ≤ c ∧ c < 25
      · have e : (fun c' => if c' = 17 + k then v else g x0 c') c = g x0 c := if_neg (by omega)
        rw [if_pos h5, if_pos (show 17 + k ≤ c ∧ c < 25 by omega), e]
      · rw [if_neg h5]
        by_cases h6 : c = 17 + k
        · have e : (fun c' => if c' = 17 + k then v else g x0 c') c = v := if_pos h6
          rw [e, if_pos (show 17 + k ≤ c ∧ c < 25 by omega), ← hv, h6]
        · have e : (fun c' => if c' = 17 + k then v else g x0 c') c = g x0 c := if_neg h6
          rw [e, if_neg (show ¬ (17 + k ≤ c ∧ c < 25) by omega)]
    have hμ : (8 - ((k : Int) + 1)).toNat < μ_mkS_7 l := by unfold μ_mkS_7; rw [hx2]; omega
    exact on_ _ r (AtsEq.refl _) hμ ((br_t (g := 0) (pdec_yes hq)).trans ((congrArg (fun q => (Tr.ok (Ex.exit 2, [At.q (aRn l 3) q 16 2 hm])).val) key).trans h)) rfl (AtsEq.refl _)
  · subst hr
    refine out_ (by simp) rfl ?_
    have e : less (g x0) x1 x2.toNat = g x0 := by
      funext c
      unfold less
      rw [if_neg (by omega)]
    show AtsEq _ [At.q (aRn l 3) (updR g x0 (less (g x0) x1 x2.toNat)) 16 2 hm]
    rw [e, updR_id]
    exact AtsEq.refl _
end Go.Proofs.Ythgagehgiooklaa.G
end

/-
  What functions of the seat compute, printed by a program from the explorer.
-/
section
namespace Go.Proofs.Ythgagehgiooklaa.G
open Go Go.AM Go.Proofs
theorem f_mkS_7 : LoopF Try.prog 2 (loopAt Try.f33 7) (loopFn 2 lsh_mkS_7 xs_mkS_7 OL_mkS_7) :=
  loop_sat (sy := y_mkS_7) (fuel := 100) (Lp := Lp_mkS_1) o_cl mixed (loopsOK_at lk_mkS_1 7) rfl eB_mkS_7 rd_mkS_7
noncomputable def Lp_mkS_7 : Loops := Loops.set Lp_mkS_1 7 (loopFn 2 lsh_mkS_7 xs_mkS_7 OL_mkS_7)
theorem lk_mkS_7 : LoopsFn Try.prog 2 Lp_mkS_7 Try.f33 := loopsFn_set lk_mkS_1 (by kernel_rfl) f_mkS_7

/-! ### mkS -/

noncomputable def ish_mkS : FSh := ⟨[.v false [.pr 0 25 0], .v false [.k (.n .i64)]], [.nrows [.n .u64, .n .u64, .n .u64, .n .u64, .n .u64, .n .u64, .n .u64, .n .u64, .n .u64, .n .u64, .n .u64, .n .u64, .n .u64, .n .u64, .n .u64, .n .u64, .n .i64, .n .i64, .n .i64, .n .i64, .n .i64, .n .i64, .n .i64, .n .i64, .n .i64] 16 [.n .i64, .n .u64] 1 false true, .no]⟩
noncomputable def osh_mkS : FSh := ⟨[.tup []], [.nrows [.n .u64, .n .u64, .n .u64, .n .u64, .n .u64, .n .u64, .n .u64, .n .u64, .n .u64, .n .u64, .n .u64, .n .u64, .n .u64, .n .u64, .n .u64, .n .u64, .n .i64, .n .i64, .n .i64, .n .i64, .n .i64, .n .i64, .n .i64, .n .i64, .n .i64] 16 [.n .i64, .n .u64] 2 false true, .no, .no]⟩
noncomputable def mkS_c0 (x0 : Nat) (x1 : Int) (g2 : Nat → Nat → Int) (h2 : Nat → Nat → Int) : Int := (↑(Int.toNat (↑(Int.toNat (Go.Proofs.Ythgagehgiooklaa.G.updR g2 x0 (Go.Proofs.Ythgagehgiooklaa.G.putS (g2 x0) (Go.Proofs.Ythgagehgiooklaa.G.apF (Go.Proofs.Ythgagehgiooklaa.G.sur (g2 x0)) (h2 x0) (0 : Nat) (Int.toNat ((↑(Int.toNat x1 - (0 : Nat)) : Int) - (0 : Int))))) x0 (16 : Nat))) : Int) - Int.toNat x1) : Int)
noncomputable def mkS_c21 (x0 : Nat) (x1 : Int) (g2 : Nat → Nat → Int) (h2 : Nat → Nat → Int) : Bool := Decidable.decide (Int.toNat (↑(Int.toNat (Go.Proofs.Ythgagehgiooklaa.G.updR g2 x0 (Go.Proofs.Ythgagehgiooklaa.G.putS (g2 x0) (Go.Proofs.Ythgagehgiooklaa.G.apF (Go.Proofs.Ythgagehgiooklaa.G.sur (g2 x0)) (h2 x0) (0 : Nat) (Int.toNat ((↑(Int.toNat x1 - (0 : Nat)) : Int) - (0 : Int))))) x0 (16 : Nat))) : Int) - Int.toNat x1 ≤ (1073741824 : Nat))
noncomputable def T_mkS (x0 : Nat) (x1 : Int) (n2 : Nat) (g2 : Nat → Nat → Int) (h2 : Nat → Nat → Int) : Tr (List At) :=
 .br 12 (Bool.true && Decidable.decide ((0 : Int) ≤ x1) && Decidable.decide (x1 ≤ (↑(Int.toNat (g2 x0 (16 : Nat))) : Int)))
 (.br 0 (Go.Proofs.Ythgagehgiooklaa.G.pdec (Go.Proofs.Ythgagehgiooklaa.G.pre1 x0 (0 : Nat) (Int.toNat x1 - (0 : Nat)) (↑(Int.toNat x1 - (0 : Nat)) : Int) (0 : Int) h2))
 (.br 33 (Decidable.decide ((0 : Int) ≤ x1) && Decidable.decide (x1 ≤ (↑(Int.toNat (Go.Proofs.Ythgagehgiooklaa.G.updR g2 x0 (Go.Proofs.Ythgagehgiooklaa.G.putS (g2 x0) (Go.Proofs.Ythgagehgiooklaa.G.apF (Go.Proofs.Ythgagehgiooklaa.G.sur (g2 x0)) (h2 x0) (0 : Nat) (Int.toNat ((↑(Int.toNat x1 - (0 : Nat)) : Int) - (0 : Int))))) x0 (16 : Nat))) : Int)))
 (.br 0 ((mkS_c21 x0 x1 g2 h2))
 (.br 0 (Bool.true)
 (.br 0 (Go.Proofs.Ythgagehgiooklaa.G.pdec (Go.Proofs.Ythgagehgiooklaa.G.pre7 (Go.AM.updG (Go.Proofs.Ythgagehgiooklaa.G.updR g2 x0 (Go.Proofs.Ythgagehgiooklaa.G.putS (g2 x0) (Go.Proofs.Ythgagehgiooklaa.G.apF (Go.Proofs.Ythgagehgiooklaa.G.sur (g2 x0)) (h2 x0) (0 : Nat) (Int.toNat ((↑(Int.toNat x1 - (0 : Nat)) : Int) - (0 : Int)))))) x0 (16 : Nat) (mkS_c0 x0 x1 g2 h2) x0) x1 (0 : Int)))
 (.ok [(.q (n2) (Go.Proofs.Ythgagehgiooklaa.G.updR (Go.AM.updG (Go.Proofs.Ythgagehgiooklaa.G.updR g2 x0 (Go.Proofs.Ythgagehgiooklaa.G.putS (g2 x0) (Go.Proofs.Ythgagehgiooklaa.G.apF (Go.Proofs.Ythgagehgiooklaa.G.sur (g2 x0)) (h2 x0) (0 : Nat) (Int.toNat ((↑(Int.toNat x1 - (0 : Nat)) : Int) - (0 : Int)))))) x0 (16 : Nat) (mkS_c0 x0 x1 g2 h2)) x0 (Go.Proofs.Ythgagehgiooklaa.G.less (Go.AM.updG (Go.Proofs.Ythgagehgiooklaa.G.updR g2 x0 (Go.Proofs.Ythgagehgiooklaa.G.putS (g2 x0) (Go.Proofs.Ythgagehgiooklaa.G.apF (Go.Proofs.Ythgagehgiooklaa.G.sur (g2 x0)) (h2 x0) (0 : Nat) (Int.toNat ((↑(Int.toNat x1 - (0 : Nat)) : Int) - (0 : Int)))))) x0 (16 : Nat) (mkS_c0 x0 x1 g2 h2) x0) x1 (0 : Nat))) ((16 : Nat)) ((2 : Nat)) (Go.AM.putM h2 x0 (2 : Nat) fun (j cc : Nat) => h2 x0 ((Int.toNat x1 + j) * (2 : Nat) + cc)))])
 (.no))
 (.no))
 (.no))
 (.no))
 (.no))
 (.no)
noncomputable def y_mkS : Nat → Option Nat := (syOf3 [12, 33] [] [])
noncomputable def TL_mkS (l : List At) : Tr (List At) := T_mkS (aN l 0) (aI l 1) (aRn l 2) (aRg l 2) (aMh l 2 16 2)
theorem e_mkS (l : List At) : (call Try.prog Γ_cl y_mkS Lp_mkS_7 100 Try.f33 (mkV ish_mkS l) (mkH ish_mkS l)).bind (leafO 2 osh_mkS) = TL_mkS l := by kernel_rfl
noncomputable def F_mkS : List At → Tr (List At) := TL_mkS
theorem s_mkS : SpecF Try.prog 33 (.eff (locF ish_mkS osh_mkS F_mkS)) :=
  spec_loc (sy := y_mkS) (fuel := 100) (Lp := Lp_mkS_7) o_cl mixed ⟨Try.func33, by kernel_rfl, by kernel_rfl⟩ ish_mkS osh_mkS lk_mkS_7 (hT_ways e_mkS)
noncomputable def Γ_mkS : Specs := upd Γ_cl 33 (.eff (locF ish_mkS osh_mkS F_mkS))
theorem o_mkS : SpecOK Try.prog Γ_mkS := SpecOK.upd o_cl s_mkS

end Go.Proofs.Ythgagehgiooklaa.G
end

/-
  makeSure, in plain words.
-/
section
namespace Go.Proofs.Ythgagehgiooklaa.G
open Go Go.AM Go.Proofs

noncomputable def F2_mkS (l : List At) : Tr (List At) := .br 0 (pdec (RowOk (aRg l 2 (aN l 0)) (aMh l 2 16 2 (aN l 0)) ∧ 0 ≤ aI l 1 ∧ aI l 1 ≤ aRg l 2 (aN l 0) 16))
  (.ok [.q (aRn l 2) (updR (aRg l 2) (aN l 0) (rowS (aRg l 2 (aN l 0)) (aMh l 2 16 2 (aN l 0)) (aI l 1).toNat)) 16 2 (updR (aMh l 2 16 2) (aN l 0) (hS (aMh l 2 16 2 (aN l 0)) (aI l 1).toNat))]) .no

theorem putS_out (r s : Nat → Int) {c : Nat} (h : ¬ (8 ≤ c ∧ c < 16)) : putS r s c = r c := if_neg h

theorem t_mkS (x0 : Nat) (x1 : Int) (n2 : Nat) (g2 h2 : Nat → Nat → Int) (hr : RowOk (g2 x0) (h2 x0)) (h0 : 0 ≤ x1) (h1 : x1 ≤ g2 x0 16) :
    (T_mkS x0 x1 n2 g2 h2).sat fun r => AtsEq r [.q n2 (updR g2 x0 (rowS (g2 x0) (h2 x0) x1.toNat)) 16 2 (updR h2 x0 (hS (h2 x0) x1.toNat))] := by
  obtain ⟨a1, a2, a3, a4⟩ := hr
  obtain ⟨n, rfl⟩ := Int.eq_ofNat_of_zero_le h0
  unfold T_mkS mkS_c21 mkS_c0
  simp only [Int.toNat_natCast, Nat.sub_zero, Int.sub_zero, updR_self, putS_out (g2 x0) _ (c := 16) (by omega)]
  refine brT (by simp; omega) (brT (pdec_yes ⟨by omega, by omega, rfl, by omega, fun k _ hk => by rw [Nat.zero_add]; exact a4 k (by omega)⟩) (brT (by simp; omega) (brT (decide_eq_true (by omega)) (brT rfl ?_))))
  have e16 : (((g2 x0 16).toNat - n : Nat) : Int) = g2 x0 16 - n := by omega
  rw [e16, updG_row, updR_updR, updR_self, updR_updR, updR_self]
  refine brT (pdec_yes ⟨by omega, by omega, by omega, by omega, fun c h5 h6 => ?_⟩) (Tr.sat_ok.2 (atsEq_cons (atEq_qe ?_ ?_) atsEq_nil))
  · have e : (fun c' => if c' = 16 then g2 x0 16 - n else putS (g2 x0) (apF (sur (g2 x0)) (h2 x0) 0 n) c') c = g2 x0 c := by
      show (if c = 16 then g2 x0 16 - (n : Int) else putS (g2 x0) (apF (sur (g2 x0)) (h2 x0) 0 n) c) = g2 x0 c
      rw [if_neg (by omega), putS_out _ _ (by omega)]
    rw [e]
    have := a3 c h5 h6
    omega
  · congr 1
    funext c
    unfold less rowS
    show (if 17 + 0 ≤ c ∧ c < 25 then (if (if c = 16 then g2 x0 16 - (n : Int) else putS (g2 x0) (apF (sur (g2 x0)) (h2 x0) 0 n) c) - (n : Int) > 0 then (if c = 16 then g2 x0 16 - (n : Int) else putS (g2 x0) (apF (sur (g2 x0)) (h2 x0) 0 n) c) - (n : Int) else 0) else (if c = 16 then g2 x0 16 - (n : Int) else putS (g2 x0) (apF (sur (g2 x0)) (h2 x0) 0 n) c)) = _
    rw [Nat.add_zero]
    by_cases h5 : c = 16
    · rw [if_neg (show ¬ (17 ≤ c ∧ c < 25) by omega), if_pos h5, if_pos h5]
    · rw [if_neg h5, if_neg h5]
      by_cases h6 : 17 ≤ c ∧ c < 25
      · rw [if_pos h6, if_pos h6, putS_out _ _ (by omega)]
      · rw [if_neg h6, if_neg h6]
  · funext i k
    unfold putM updR hS
    by_cases h5 : i = x0
    · rw [if_pos h5, if_pos h5]
      exact congrArg (h2 x0) (by omega)
    · rw [if_neg h5, if_neg h5]

theorem s2_mkS : SpecF Try.prog 33 (.eff (locF ish_mkS osh_mkS F2_mkS)) :=
  spec_loc (sy := y_mkS) (fuel := 100) (Lp := Lp_mkS_7) o_cl mixed ⟨Try.func33, by kernel_rfl, by kernel_rfl⟩ ish_mkS osh_mkS lk_mkS_7 (hT_of e_mkS fun l r h => by
    obtain ⟨hc, h⟩ := guard_val h
    obtain ⟨h1, h2, h3⟩ := of_pdec hc
    have := val_ok h
    subst this
    exact t_mkS _ _ _ _ _ h1 h2 h3)
noncomputable def Γ_S4 : Specs := upd Γ_cl 33 (.eff (locF ish_mkS osh_mkS F2_mkS))
theorem o_S4 : SpecOK Try.prog Γ_S4 := SpecOK.upd o_cl s2_mkS
end Go.Proofs.Ythgagehgiooklaa.G
end

/-
  What functions of the seat compute, printed by a program from the explorer.
-/
section
namespace Go.Proofs.Ythgagehgiooklaa.G
open Go Go.AM Go.Proofs
/-! ### store -/

noncomputable def ish_store : FSh := ⟨[.v false [.p 0 0], .v false [.k (.n .i64)], .v false [.k (.n .i64)], .v false [.k (.n .u64)]], [.cells [.sw 1 25, .k .b, .k .b, .k (.n .i64), .k (.n .i64)], .nrows [.n .u64, .n .u64, .n .u64, .n .u64, .n .u64, .n .u64, .n .u64, .n .u64, .n .u64, .n .u64, .n .u64, .n .u64, .n .u64, .n .u64, .n .u64, .n .u64, .n .i64, .n .i64, .n .i64, .n .i64, .n .i64, .n .i64, .n .i64, .n .i64, .n .i64] 16 [.n .i64, .n .u64] 2 false true, .no]⟩
noncomputable def osh_store : FSh := ⟨[.v false [.k (.n .i64)]], [.cells [.sw 1 25, .k .b, .k .b, .k (.n .i64), .k (.n .i64)], .nrows [.n .u64, .n .u64, .n .u64, .n .u64, .n .u64, .n .u64, .n .u64, .n .u64, .n .u64, .n .u64, .n .u64, .n .u64, .n .u64, .n .u64, .n .u64, .n .u64, .n .i64, .n .i64, .n .i64, .n .i64, .n .i64, .n .i64, .n .i64, .n .i64, .n .i64] 16 [.n .i64, .n .u64] 3 false true, .no, .no]⟩
noncomputable def store_c4 (x0 : Int) (x1 : Int) (x2 : Int) (g7 : Nat → Nat → Int) : Bool := Decidable.decide (Int.toNat (Go.AM.updG g7 (Int.toNat x0) ((0 : Nat) + Int.toNat x1 * (1 : Nat)) x2 (Int.toNat x0) (16 : Nat)) + (1 : Nat) ≤ (1073741824 : Nat))
noncomputable def store_c5 (x0 : Int) (n7 : Nat) : Bool := Decidable.decide (x0 ≥ (↑n7 : Int))
noncomputable def T_store (x0 : Int) (x1 : Int) (x2 : Int) (x3 : Bool) (x4 : Bool) (x5 : Int) (x6 : Int) (n7 : Nat) (g7 : Nat → Nat → Int) (h7 : Nat → Nat → Int) : Tr (List At) :=
 .br 7 (Decidable.decide (x0 < (0 : Int)))
 (.br 20 (Bool.true)
 (.ok [(.i ((1 : Int))), (.b (x3)), (.b (x4)), (.i (x5)), (.i (x6)), (.q (n7) (g7) ((16 : Nat)) ((2 : Nat)) (h7))])
 (.br 23 (Decidable.decide (x1 ≥ (8 : Int)))
 (.ok [(.i ((1 : Int))), (.b (x3)), (.b (x4)), (.i (x5)), (.i (x6)), (.q (n7) (g7) ((16 : Nat)) ((2 : Nat)) (h7))])
 (.br 0 (Go.Proofs.Ythgagehgiooklaa.G.pdec (Go.AM.aB ([] ++ [] ++ ([] ++ ([Go.AM.At.b x3] ++ ([Go.AM.At.b x4] ++ ([Go.AM.At.i x5] ++ ([Go.AM.At.i x6] ++ [])))) ++ ([] ++ []))) (1 : Nat) = Bool.true → (0 : Int) ≤ Go.AM.aI ([] ++ [] ++ ([] ++ ([Go.AM.At.b x3] ++ ([Go.AM.At.b x4] ++ ([Go.AM.At.i x5] ++ ([Go.AM.At.i x6] ++ [])))) ++ ([] ++ []))) (2 : Nat) ∧ Go.AM.aI ([] ++ [] ++ ([] ++ ([Go.AM.At.b x3] ++ ([Go.AM.At.b x4] ++ ([Go.AM.At.i x5] ++ ([Go.AM.At.i x6] ++ [])))) ++ ([] ++ []))) (2 : Nat) ≤ (9223372036854775807 : Int)))
 (.br 0 (Go.Proofs.Ythgagehgiooklaa.G.pdec ((0 : Int) ≤ x6 ∧ x6 ≤ (1000000000 : Int)))
 (.br 27 (Go.Proofs.Ythgagehgiooklaa.G.codeI x3 x4 x5 != (0 : Int))
 (.ok [(.i (Go.Proofs.Ythgagehgiooklaa.G.codeI x3 x4 x5)), (.b (Go.Proofs.Ythgagehgiooklaa.G.offB x3 x4 x5)), (.b (x4)), (.i (Go.Proofs.Ythgagehgiooklaa.G.leftI x3 x4 x5)), (.i (Go.Proofs.Ythgagehgiooklaa.G.stepsI x3 x4 x5 x6)), (.q (n7) (g7) ((16 : Nat)) ((2 : Nat)) (h7))])
 (.no))
 (.no))
 (.no))))
 (.br 15 ((store_c5 x0 n7))
 (.br 20 (Bool.true)
 (.ok [(.i ((1 : Int))), (.b (x3)), (.b (x4)), (.i (x5)), (.i (x6)), (.q (n7) (g7) ((16 : Nat)) ((2 : Nat)) (h7))])
 (.br 23 (Decidable.decide (x1 ≥ (8 : Int)))
 (.ok [(.i ((1 : Int))), (.b (x3)), (.b (x4)), (.i (x5)), (.i (x6)), (.q (n7) (g7) ((16 : Nat)) ((2 : Nat)) (h7))])
 (.br 0 (Go.Proofs.Ythgagehgiooklaa.G.pdec (Go.AM.aB ([] ++ [] ++ ([] ++ ([Go.AM.At.b x3] ++ ([Go.AM.At.b x4] ++ ([Go.AM.At.i x5] ++ ([Go.AM.At.i x6] ++ [])))) ++ ([] ++ []))) (1 : Nat) = Bool.true → (0 : Int) ≤ Go.AM.aI ([] ++ [] ++ ([] ++ ([Go.AM.At.b x3] ++ ([Go.AM.At.b x4] ++ ([Go.AM.At.i x5] ++ ([Go.AM.At.i x6] ++ [])))) ++ ([] ++ []))) (2 : Nat) ∧ Go.AM.aI ([] ++ [] ++ ([] ++ ([Go.AM.At.b x3] ++ ([Go.AM.At.b x4] ++ ([Go.AM.At.i x5] ++ ([Go.AM.At.i x6] ++ [])))) ++ ([] ++ []))) (2 : Nat) ≤ (9223372036854775807 : Int)))
 (.br 0 (Go.Proofs.Ythgagehgiooklaa.G.pdec ((0 : Int) ≤ x6 ∧ x6 ≤ (1000000000 : Int)))
 (.br 27 (Go.Proofs.Ythgagehgiooklaa.G.codeI x3 x4 x5 != (0 : Int))
 (.ok [(.i (Go.Proofs.Ythgagehgiooklaa.G.codeI x3 x4 x5)), (.b (Go.Proofs.Ythgagehgiooklaa.G.offB x3 x4 x5)), (.b (x4)), (.i (Go.Proofs.Ythgagehgiooklaa.G.leftI x3 x4 x5)), (.i (Go.Proofs.Ythgagehgiooklaa.G.stepsI x3 x4 x5 x6)), (.q (n7) (g7) ((16 : Nat)) ((2 : Nat)) (h7))])
 (.no))
 (.no))
 (.no))))
 (.br 21 (Go.AM.within x0 n7)
 (.br 20 (Decidable.decide (x1 < (0 : Int)))
 (.ok [(.i ((1 : Int))), (.b (x3)), (.b (x4)), (.i (x5)), (.i (x6)), (.q (n7) (g7) ((16 : Nat)) ((2 : Nat)) (h7))])
 (.br 23 (Decidable.decide (x1 ≥ (8 : Int)))
 (.ok [(.i ((1 : Int))), (.b (x3)), (.b (x4)), (.i (x5)), (.i (x6)), (.q (n7) (g7) ((16 : Nat)) ((2 : Nat)) (h7))])
 (.br 0 (Go.Proofs.Ythgagehgiooklaa.G.pdec (Go.AM.aB ([] ++ [] ++ ([] ++ ([Go.AM.At.b x3] ++ ([Go.AM.At.b x4] ++ ([Go.AM.At.i x5] ++ ([Go.AM.At.i x6] ++ [])))) ++ ([] ++ []))) (1 : Nat) = Bool.true → (0 : Int) ≤ Go.AM.aI ([] ++ [] ++ ([] ++ ([Go.AM.At.b x3] ++ ([Go.AM.At.b x4] ++ ([Go.AM.At.i x5] ++ ([Go.AM.At.i x6] ++ [])))) ++ ([] ++ []))) (2 : Nat) ∧ Go.AM.aI ([] ++ [] ++ ([] ++ ([Go.AM.At.b x3] ++ ([Go.AM.At.b x4] ++ ([Go.AM.At.i x5] ++ ([Go.AM.At.i x6] ++ [])))) ++ ([] ++ []))) (2 : Nat) ≤ (9223372036854775807 : Int)))
 (.br 0 (Go.Proofs.Ythgagehgiooklaa.G.pdec ((0 : Int) ≤ x6 ∧ x6 ≤ (1000000000 : Int)))
 (.br 27 (Go.Proofs.Ythgagehgiooklaa.G.codeI x3 x4 x5 != (0 : Int))
 (.ok [(.i (Go.Proofs.Ythgagehgiooklaa.G.codeI x3 x4 x5)), (.b (Go.Proofs.Ythgagehgiooklaa.G.offB x3 x4 x5)), (.b (x4)), (.i (Go.Proofs.Ythgagehgiooklaa.G.leftI x3 x4 x5)), (.i (Go.Proofs.Ythgagehgiooklaa.G.stepsI x3 x4 x5 x6)), (.q (n7) (g7) ((16 : Nat)) ((2 : Nat)) (h7))])
 (.br 200034 (Go.AM.within x1 (8 : Nat))
 (.br 44 ((store_c4 x0 x1 x2 g7))
 (.br 0 (Nat.beq (Int.toNat x0) (Int.toNat x0))
 (.ok [(.i ((0 : Int))), (.b (Go.Proofs.Ythgagehgiooklaa.G.offB x3 x4 x5)), (.b (x4)), (.i (Go.Proofs.Ythgagehgiooklaa.G.leftI x3 x4 x5)), (.i (Go.Proofs.Ythgagehgiooklaa.G.stepsI x3 x4 x5 x6)), (.q (n7) (Go.AM.updG (Go.AM.updG g7 (Int.toNat x0) ((0 : Nat) + Int.toNat x1 * (1 : Nat)) x2) (Int.toNat x0) (16 : Nat) (↑(Int.toNat (Go.AM.updG g7 (Int.toNat x0) ((0 : Nat) + Int.toNat x1 * (1 : Nat)) x2 (Int.toNat x0) (16 : Nat)) + (1 : Nat)) : Int)) ((16 : Nat)) ((2 : Nat)) (Go.AM.putM h7 (Int.toNat x0) (2 : Nat) (Go.AM.appG (fun (j c : Nat) => h7 (Int.toNat x0) (j * (2 : Nat) + c)) (Int.toNat (Go.AM.updG g7 (Int.toNat x0) ((0 : Nat) + Int.toNat x1 * (1 : Nat)) x2 (Int.toNat x0) (16 : Nat))) (Go.AM.rowsF [[x1, x2]]))))])
 (.no))
 (.no))
 (.no)))
 (.no))
 (.no))))
 (.no)))
noncomputable def y_store : Nat → Option Nat := (syOf3 [7, 15, 21, 20, 23, 27, 44] [] [34])
noncomputable def TL_store (l : List At) : Tr (List At) := T_store (aI l 0) (aI l 1) (aI l 2) (aB l 3) (aB l 4) (aI l 5) (aI l 6) (aRn l 7) (aRg l 7) (aMh l 7 16 2)
theorem e_store (l : List At) : (call Try.prog Γ_S4 y_store noLoops 100 Try.f17 (mkV ish_store l) (mkH ish_store l)).bind (leafO 3 osh_store) = TL_store l := by kernel_rfl
noncomputable def F_store : List At → Tr (List At) := TL_store
theorem s_store : SpecF Try.prog 17 (.eff (locF ish_store osh_store F_store)) :=
  spec_loc (sy := y_store) (fuel := 100) (Lp := noLoops) o_S4 mixed ⟨Try.func17, by kernel_rfl, by kernel_rfl⟩ ish_store osh_store (noLoops_ok _) (hT_ways e_store)
noncomputable def Γ_store : Specs := upd Γ_S4 17 (.eff (locF ish_store osh_store F_store))
theorem o_store : SpecOK Try.prog Γ_store := SpecOK.upd o_S4 s_store

/-! ### load -/

noncomputable def ish_load : FSh := ⟨[.v false [.p 0 0], .v false [.k (.n .i64)]], [.roc [.sw 1 25, .k .b, .k .b, .k (.n .i64), .k (.n .i64)], .nrows [.n .u64, .n .u64, .n .u64, .n .u64, .n .u64, .n .u64, .n .u64, .n .u64, .n .u64, .n .u64, .n .u64, .n .u64, .n .u64, .n .u64, .n .u64, .n .u64, .n .i64, .n .i64, .n .i64, .n .i64, .n .i64, .n .i64, .n .i64, .n .i64, .n .i64] 16 [.n .i64, .n .u64] 2 false false, .no]⟩
noncomputable def osh_load : FSh := ⟨[.tup [(true, [.k (.n .u64), .k (.n .u64), .k (.n .u64), .k (.n .u64), .k (.n .u64), .k (.n .u64), .k (.n .u64), .k (.n .u64)]), (false, [.k (.n .i64)])]], [.no, .no, .no]⟩
noncomputable def load_c0 (x0 : Int) (n5 : Nat) : Bool := Decidable.decide (x0 ≥ (↑n5 : Int))
noncomputable def T_load (x0 : Int) (x1 : Bool) (x2 : Bool) (x3 : Int) (x4 : Int) (n5 : Nat) (g5 : Nat → Nat → Int) (h5 : Nat → Nat → Int) : Tr (List At) :=
 .br 7 (Decidable.decide (x0 < (0 : Int)))
 (.ok [(.i ((0 : Int))), (.i ((0 : Int))), (.i ((0 : Int))), (.i ((0 : Int))), (.i ((0 : Int))), (.i ((0 : Int))), (.i ((0 : Int))), (.i ((0 : Int))), (.i ((1 : Int)))])
 (.br 15 ((load_c0 x0 n5))
 (.ok [(.i ((0 : Int))), (.i ((0 : Int))), (.i ((0 : Int))), (.i ((0 : Int))), (.i ((0 : Int))), (.i ((0 : Int))), (.i ((0 : Int))), (.i ((0 : Int))), (.i ((1 : Int)))])
 (.br 21 (Go.AM.within x0 n5)
 (.br 14 (x1)
 (.ok [(.i ((0 : Int))), (.i ((0 : Int))), (.i ((0 : Int))), (.i ((0 : Int))), (.i ((0 : Int))), (.i ((0 : Int))), (.i ((0 : Int))), (.i ((0 : Int))), (.i ((4 : Int)))])
 (.ok [(.i (g5 (Int.toNat x0) (0 : Nat))), (.i (g5 (Int.toNat x0) (1 : Nat))), (.i (g5 (Int.toNat x0) (2 : Nat))), (.i (g5 (Int.toNat x0) (3 : Nat))), (.i (g5 (Int.toNat x0) (4 : Nat))), (.i (g5 (Int.toNat x0) (5 : Nat))), (.i (g5 (Int.toNat x0) (6 : Nat))), (.i (g5 (Int.toNat x0) (7 : Nat))), (.i ((0 : Int)))]))
 (.no)))
noncomputable def y_load : Nat → Option Nat := (syOf3 [7, 15, 21, 14] [] [])
noncomputable def TL_load (l : List At) : Tr (List At) := T_load (aI l 0) (aB l 1) (aB l 2) (aI l 3) (aI l 4) (aRn l 5) (aRg l 5) (aMh l 5 16 2)
theorem e_load (l : List At) : (call Try.prog Γ_store y_load noLoops 100 Try.f19 (mkV ish_load l) (mkH ish_load l)).bind (leafO 3 osh_load) = TL_load l := by kernel_rfl
noncomputable def F_load : List At → Tr (List At) := TL_load
theorem s_load : SpecF Try.prog 19 (.read (locR ish_load osh_load F_load)) :=
  spec_read (sy := y_load) (fuel := 100) (Lp := noLoops) o_store mixed ⟨Try.func19, by kernel_rfl, by kernel_rfl⟩ ish_load osh_load (by kernel_rfl) (noLoops_ok _) (hT_ways e_load)
noncomputable def Γ_load : Specs := upd Γ_store 19 (.read (locR ish_load osh_load F_load))
theorem o_load : SpecOK Try.prog Γ_load := SpecOK.upd o_store s_load

/-! ### on -/

noncomputable def ish_on : FSh := ⟨[.v false [.p 0 0]], [.roc [.opq 1, .k .b, .k .b, .k (.n .i64), .k (.n .i64)], .no]⟩
noncomputable def osh_on : FSh := ⟨[.v false [.k .b]], [.no, .no]⟩
noncomputable def T_on (x0 : Bool) (x1 : Bool) (x2 : Int) (x3 : Int) : Tr (List At) :=
 .ok [(.b (!x0))]
noncomputable def y_on : Nat → Option Nat := (syOf3 [] [] [])
noncomputable def TL_on (l : List At) : Tr (List At) := T_on (aB l 0) (aB l 1) (aI l 2) (aI l 3)
theorem e_on (l : List At) : (call Try.prog Γ_load y_on noLoops 100 Try.f21 (mkV ish_on l) (mkH ish_on l)).bind (leafO 2 osh_on) = TL_on l := by kernel_rfl
noncomputable def F_on : List At → Tr (List At) := TL_on
theorem s_on : SpecF Try.prog 21 (.read (locR ish_on osh_on F_on)) :=
  spec_read (sy := y_on) (fuel := 100) (Lp := noLoops) o_load mixed ⟨Try.func21, by kernel_rfl, by kernel_rfl⟩ ish_on osh_on (by kernel_rfl) (noLoops_ok _) (hT_ways e_on)
noncomputable def Γ_on : Specs := upd Γ_load 21 (.read (locR ish_on osh_on F_on))
theorem o_on : SpecOK Try.prog Γ_on := SpecOK.upd o_load s_on

/-! ### steps -/

noncomputable def ish_steps : FSh := ⟨[.v false [.p 0 0]], [.roc [.opq 1, .k .b, .k .b, .k (.n .i64), .k (.n .i64)], .no]⟩
noncomputable def osh_steps : FSh := ⟨[.v false [.k (.n .i64)]], [.no, .no]⟩
noncomputable def T_steps (x0 : Bool) (x1 : Bool) (x2 : Int) (x3 : Int) : Tr (List At) :=
 .ok [(.i (x3))]
noncomputable def y_steps : Nat → Option Nat := (syOf3 [] [] [])
noncomputable def TL_steps (l : List At) : Tr (List At) := T_steps (aB l 0) (aB l 1) (aI l 2) (aI l 3)
theorem e_steps (l : List At) : (call Try.prog Γ_on y_steps noLoops 100 Try.f22 (mkV ish_steps l) (mkH ish_steps l)).bind (leafO 2 osh_steps) = TL_steps l := by kernel_rfl
noncomputable def F_steps : List At → Tr (List At) := TL_steps
theorem s_steps : SpecF Try.prog 22 (.read (locR ish_steps osh_steps F_steps)) :=
  spec_read (sy := y_steps) (fuel := 100) (Lp := noLoops) o_on mixed ⟨Try.func22, by kernel_rfl, by kernel_rfl⟩ ish_steps osh_steps (by kernel_rfl) (noLoops_ok _) (hT_ways e_steps)
noncomputable def Γ_steps : Specs := upd Γ_on 22 (.read (locR ish_steps osh_steps F_steps))
theorem o_steps : SpecOK Try.prog Γ_steps := SpecOK.upd o_on s_steps

/-! ### lines -/

noncomputable def ish_lines : FSh := ⟨[.v false [.p 0 0]], [.roc [.sw 1 25, .k .b, .k .b, .k (.n .i64), .k (.n .i64)], .nrows [.n .u64, .n .u64, .n .u64, .n .u64, .n .u64, .n .u64, .n .u64, .n .u64, .n .u64, .n .u64, .n .u64, .n .u64, .n .u64, .n .u64, .n .u64, .n .u64, .n .i64, .n .i64, .n .i64, .n .i64, .n .i64, .n .i64, .n .i64, .n .i64, .n .i64] 16 [.n .i64, .n .u64] 2 false false, .no]⟩
noncomputable def osh_lines : FSh := ⟨[.v false [.k (.n .i64)]], [.no, .no, .no]⟩
noncomputable def T_lines (x0 : Bool) (x1 : Bool) (x2 : Int) (x3 : Int) (n4 : Nat) (g4 : Nat → Nat → Int) (h4 : Nat → Nat → Int) : Tr (List At) :=
 .ok [(.i ((↑n4 : Int)))]
noncomputable def y_lines : Nat → Option Nat := (syOf3 [] [] [])
noncomputable def TL_lines (l : List At) : Tr (List At) := T_lines (aB l 0) (aB l 1) (aI l 2) (aI l 3) (aRn l 4) (aRg l 4) (aMh l 4 16 2)
theorem e_lines (l : List At) : (call Try.prog Γ_steps y_lines noLoops 100 Try.f30 (mkV ish_lines l) (mkH ish_lines l)).bind (leafO 3 osh_lines) = TL_lines l := by kernel_rfl
noncomputable def F_lines : List At → Tr (List At) := TL_lines
theorem s_lines : SpecF Try.prog 30 (.read (locR ish_lines osh_lines F_lines)) :=
  spec_read (sy := y_lines) (fuel := 100) (Lp := noLoops) o_steps mixed ⟨Try.func30, by kernel_rfl, by kernel_rfl⟩ ish_lines osh_lines (by kernel_rfl) (noLoops_ok _) (hT_ways e_lines)
noncomputable def Γ_lines : Specs := upd Γ_steps 30 (.read (locR ish_lines osh_lines F_lines))
theorem o_lines : SpecOK Try.prog Γ_lines := SpecOK.upd o_steps s_lines

/-! ### fuse -/

noncomputable def ish_fuse : FSh := ⟨[.v false [.p 0 0], .v false [.k (.n .i64)]], [.cells [.opq 1, .k .b, .k .b, .k (.n .i64), .k (.n .i64)], .no]⟩
noncomputable def osh_fuse : FSh := ⟨[.tup []], [.cells [.opq 1, .k .b, .k .b, .k (.n .i64), .k (.n .i64)], .no]⟩
noncomputable def T_fuse (x0 : Int) (x1 : Bool) (x2 : Bool) (x3 : Int) (x4 : Int) : Tr (List At) :=
 .ok [(.b (x1)), (.b (Decidable.decide (x0 ≥ (0 : Int)))), (.i (x0)), (.i (x4))]
noncomputable def y_fuse : Nat → Option Nat := (syOf3 [] [] [])
noncomputable def TL_fuse (l : List At) : Tr (List At) := T_fuse (aI l 0) (aB l 1) (aB l 2) (aI l 3) (aI l 4)
theorem e_fuse (l : List At) : (call Try.prog Γ_lines y_fuse noLoops 100 Try.f20 (mkV ish_fuse l) (mkH ish_fuse l)).bind (leafO 2 osh_fuse) = TL_fuse l := by kernel_rfl
noncomputable def F_fuse : List At → Tr (List At) := TL_fuse
theorem s_fuse : SpecF Try.prog 20 (.eff (locF ish_fuse osh_fuse F_fuse)) :=
  spec_loc (sy := y_fuse) (fuel := 100) (Lp := noLoops) o_lines mixed ⟨Try.func20, by kernel_rfl, by kernel_rfl⟩ ish_fuse osh_fuse (noLoops_ok _) (hT_ways e_fuse)
noncomputable def Γ_fuse : Specs := upd Γ_lines 20 (.eff (locF ish_fuse osh_fuse F_fuse))
theorem o_fuse : SpecOK Try.prog Γ_fuse := SpecOK.upd o_lines s_fuse

end Go.Proofs.Ythgagehgiooklaa.G
end

/-
  What functions of the seat compute, printed by a program from the explorer.
-/
section
namespace Go.Proofs.Ythgagehgiooklaa.G
open Go Go.AM Go.Proofs
/-! ### flush -/

noncomputable def ish_flush : FSh := ⟨[.v false [.p 0 0], .v false [.k (.n .i64)], .v false [.k (.n .i64)]], [.cells [.sw 1 25, .k .b, .k .b, .k (.n .i64), .k (.n .i64)], .nrows [.n .u64, .n .u64, .n .u64, .n .u64, .n .u64, .n .u64, .n .u64, .n .u64, .n .u64, .n .u64, .n .u64, .n .u64, .n .u64, .n .u64, .n .u64, .n .u64, .n .i64, .n .i64, .n .i64, .n .i64, .n .i64, .n .i64, .n .i64, .n .i64, .n .i64] 16 [.n .i64, .n .u64] 2 false true, .no]⟩
noncomputable def osh_flush : FSh := ⟨[.v false [.k (.n .i64)]], [.cells [.sw 1 25, .k .b, .k .b, .k (.n .i64), .k (.n .i64)], .nrows [.n .u64, .n .u64, .n .u64, .n .u64, .n .u64, .n .u64, .n .u64, .n .u64, .n .u64, .n .u64, .n .u64, .n .u64, .n .u64, .n .u64, .n .u64, .n .u64, .n .i64, .n .i64, .n .i64, .n .i64, .n .i64, .n .i64, .n .i64, .n .i64, .n .i64] 16 [.n .i64, .n .u64] 3 false true, .no, .no]⟩
noncomputable def flush_c0 (x1 : Int) (n6 : Nat) : Bool := Decidable.decide (x1 ≥ (↑n6 : Int))
noncomputable def T_flush (x0 : Int) (x1 : Int) (x2 : Bool) (x3 : Bool) (x4 : Int) (x5 : Int) (n6 : Nat) (g6 : Nat → Nat → Int) (h6 : Nat → Nat → Int) : Tr (List At) :=
 .br 7 (Decidable.decide (x1 < (0 : Int)))
 (.br 18 (Bool.true)
 (.ok [(.i ((1 : Int))), (.b (x2)), (.b (x3)), (.i (x4)), (.i (x5)), (.q (n6) (g6) ((16 : Nat)) ((2 : Nat)) (h6))])
 (.br 21 (Decidable.decide (x0 ≥ (8 : Int)))
 (.ok [(.i ((1 : Int))), (.b (x2)), (.b (x3)), (.i (x4)), (.i (x5)), (.q (n6) (g6) ((16 : Nat)) ((2 : Nat)) (h6))])
 (.br 0 (Go.Proofs.Ythgagehgiooklaa.G.pdec (Go.AM.aB ([] ++ [] ++ ([] ++ ([Go.AM.At.b x2] ++ ([Go.AM.At.b x3] ++ ([Go.AM.At.i x4] ++ ([Go.AM.At.i x5] ++ [])))) ++ ([] ++ []))) (1 : Nat) = Bool.true → (0 : Int) ≤ Go.AM.aI ([] ++ [] ++ ([] ++ ([Go.AM.At.b x2] ++ ([Go.AM.At.b x3] ++ ([Go.AM.At.i x4] ++ ([Go.AM.At.i x5] ++ [])))) ++ ([] ++ []))) (2 : Nat) ∧ Go.AM.aI ([] ++ [] ++ ([] ++ ([Go.AM.At.b x2] ++ ([Go.AM.At.b x3] ++ ([Go.AM.At.i x4] ++ ([Go.AM.At.i x5] ++ [])))) ++ ([] ++ []))) (2 : Nat) ≤ (9223372036854775807 : Int)))
 (.br 0 (Go.Proofs.Ythgagehgiooklaa.G.pdec ((0 : Int) ≤ x5 ∧ x5 ≤ (1000000000 : Int)))
 (.br 25 (Go.Proofs.Ythgagehgiooklaa.G.codeI x2 x3 x4 != (0 : Int))
 (.ok [(.i (Go.Proofs.Ythgagehgiooklaa.G.codeI x2 x3 x4)), (.b (Go.Proofs.Ythgagehgiooklaa.G.offB x2 x3 x4)), (.b (x3)), (.i (Go.Proofs.Ythgagehgiooklaa.G.leftI x2 x3 x4)), (.i (Go.Proofs.Ythgagehgiooklaa.G.stepsI x2 x3 x4 x5)), (.q (n6) (g6) ((16 : Nat)) ((2 : Nat)) (h6))])
 (.no))
 (.no))
 (.no))))
 (.br 15 ((flush_c0 x1 n6))
 (.br 18 (Bool.true)
 (.ok [(.i ((1 : Int))), (.b (x2)), (.b (x3)), (.i (x4)), (.i (x5)), (.q (n6) (g6) ((16 : Nat)) ((2 : Nat)) (h6))])
 (.br 21 (Decidable.decide (x0 ≥ (8 : Int)))
 (.ok [(.i ((1 : Int))), (.b (x2)), (.b (x3)), (.i (x4)), (.i (x5)), (.q (n6) (g6) ((16 : Nat)) ((2 : Nat)) (h6))])
 (.br 0 (Go.Proofs.Ythgagehgiooklaa.G.pdec (Go.AM.aB ([] ++ [] ++ ([] ++ ([Go.AM.At.b x2] ++ ([Go.AM.At.b x3] ++ ([Go.AM.At.i x4] ++ ([Go.AM.At.i x5] ++ [])))) ++ ([] ++ []))) (1 : Nat) = Bool.true → (0 : Int) ≤ Go.AM.aI ([] ++ [] ++ ([] ++ ([Go.AM.At.b x2] ++ ([Go.AM.At.b x3] ++ ([Go.AM.At.i x4] ++ ([Go.AM.At.i x5] ++ [])))) ++ ([] ++ []))) (2 : Nat) ∧ Go.AM.aI ([] ++ [] ++ ([] ++ ([Go.AM.At.b x2] ++ ([Go.AM.At.b x3] ++ ([Go.AM.At.i x4] ++ ([Go.AM.At.i x5] ++ [])))) ++ ([] ++ []))) (2 : Nat) ≤ (9223372036854775807 : Int)))
 (.br 0 (Go.Proofs.Ythgagehgiooklaa.G.pdec ((0 : Int) ≤ x5 ∧ x5 ≤ (1000000000 : Int)))
 (.br 25 (Go.Proofs.Ythgagehgiooklaa.G.codeI x2 x3 x4 != (0 : Int))
 (.ok [(.i (Go.Proofs.Ythgagehgiooklaa.G.codeI x2 x3 x4)), (.b (Go.Proofs.Ythgagehgiooklaa.G.offB x2 x3 x4)), (.b (x3)), (.i (Go.Proofs.Ythgagehgiooklaa.G.leftI x2 x3 x4)), (.i (Go.Proofs.Ythgagehgiooklaa.G.stepsI x2 x3 x4 x5)), (.q (n6) (g6) ((16 : Nat)) ((2 : Nat)) (h6))])
 (.no))
 (.no))
 (.no))))
 (.br 21 (Go.AM.within x1 n6)
 (.br 18 (Decidable.decide (x0 < (0 : Int)))
 (.ok [(.i ((1 : Int))), (.b (x2)), (.b (x3)), (.i (x4)), (.i (x5)), (.q (n6) (g6) ((16 : Nat)) ((2 : Nat)) (h6))])
 (.br 21 (Decidable.decide (x0 ≥ (8 : Int)))
 (.ok [(.i ((1 : Int))), (.b (x2)), (.b (x3)), (.i (x4)), (.i (x5)), (.q (n6) (g6) ((16 : Nat)) ((2 : Nat)) (h6))])
 (.br 0 (Go.Proofs.Ythgagehgiooklaa.G.pdec (Go.AM.aB ([] ++ [] ++ ([] ++ ([Go.AM.At.b x2] ++ ([Go.AM.At.b x3] ++ ([Go.AM.At.i x4] ++ ([Go.AM.At.i x5] ++ [])))) ++ ([] ++ []))) (1 : Nat) = Bool.true → (0 : Int) ≤ Go.AM.aI ([] ++ [] ++ ([] ++ ([Go.AM.At.b x2] ++ ([Go.AM.At.b x3] ++ ([Go.AM.At.i x4] ++ ([Go.AM.At.i x5] ++ [])))) ++ ([] ++ []))) (2 : Nat) ∧ Go.AM.aI ([] ++ [] ++ ([] ++ ([Go.AM.At.b x2] ++ ([Go.AM.At.b x3] ++ ([Go.AM.At.i x4] ++ ([Go.AM.At.i x5] ++ [])))) ++ ([] ++ []))) (2 : Nat) ≤ (9223372036854775807 : Int)))
 (.br 0 (Go.Proofs.Ythgagehgiooklaa.G.pdec ((0 : Int) ≤ x5 ∧ x5 ≤ (1000000000 : Int)))
 (.br 25 (Go.Proofs.Ythgagehgiooklaa.G.codeI x2 x3 x4 != (0 : Int))
 (.ok [(.i (Go.Proofs.Ythgagehgiooklaa.G.codeI x2 x3 x4)), (.b (Go.Proofs.Ythgagehgiooklaa.G.offB x2 x3 x4)), (.b (x3)), (.i (Go.Proofs.Ythgagehgiooklaa.G.leftI x2 x3 x4)), (.i (Go.Proofs.Ythgagehgiooklaa.G.stepsI x2 x3 x4 x5)), (.q (n6) (g6) ((16 : Nat)) ((2 : Nat)) (h6))])
 (.br 200036 (Go.AM.within x0 (8 : Nat))
 (.ok [(.i ((0 : Int))), (.b (Go.Proofs.Ythgagehgiooklaa.G.offB x2 x3 x4)), (.b (x3)), (.i (Go.Proofs.Ythgagehgiooklaa.G.leftI x2 x3 x4)), (.i (Go.Proofs.Ythgagehgiooklaa.G.stepsI x2 x3 x4 x5)), (.q (n6) (Go.AM.updG g6 (Int.toNat x1) ((17 : Nat) + Int.toNat x0 * (1 : Nat)) (↑(Int.toNat (g6 (Int.toNat x1) (16 : Nat))) : Int)) ((16 : Nat)) ((2 : Nat)) (h6))])
 (.no)))
 (.no))
 (.no))))
 (.no)))
noncomputable def y_flush : Nat → Option Nat := (syOf3 [7, 15, 21, 18, 25] [] [36])
noncomputable def TL_flush (l : List At) : Tr (List At) := T_flush (aI l 0) (aI l 1) (aB l 2) (aB l 3) (aI l 4) (aI l 5) (aRn l 6) (aRg l 6) (aMh l 6 16 2)
theorem e_flush (l : List At) : (call Try.prog Γ_fuse y_flush noLoops 100 Try.f15 (mkV ish_flush l) (mkH ish_flush l)).bind (leafO 3 osh_flush) = TL_flush l := by kernel_rfl
noncomputable def F_flush : List At → Tr (List At) := TL_flush
theorem s_flush : SpecF Try.prog 15 (.eff (locF ish_flush osh_flush F_flush)) :=
  spec_loc (sy := y_flush) (fuel := 100) (Lp := noLoops) o_fuse mixed ⟨Try.func15, by kernel_rfl, by kernel_rfl⟩ ish_flush osh_flush (noLoops_ok _) (hT_ways e_flush)
noncomputable def Γ_flush : Specs := upd Γ_fuse 15 (.eff (locF ish_flush osh_flush F_flush))
theorem o_flush : SpecOK Try.prog Γ_flush := SpecOK.upd o_fuse s_flush

/-! ### evict -/

noncomputable def ish_evict : FSh := ⟨[.v false [.p 0 0], .v false [.k (.n .i64)], .v false [.k (.n .i64)]], [.cells [.sw 1 25, .k .b, .k .b, .k (.n .i64), .k (.n .i64)], .nrows [.n .u64, .n .u64, .n .u64, .n .u64, .n .u64, .n .u64, .n .u64, .n .u64, .n .u64, .n .u64, .n .u64, .n .u64, .n .u64, .n .u64, .n .u64, .n .u64, .n .i64, .n .i64, .n .i64, .n .i64, .n .i64, .n .i64, .n .i64, .n .i64, .n .i64] 16 [.n .i64, .n .u64] 2 false true, .no]⟩
noncomputable def osh_evict : FSh := ⟨[.v false [.k (.n .i64)]], [.cells [.sw 1 25, .k .b, .k .b, .k (.n .i64), .k (.n .i64)], .nrows [.n .u64, .n .u64, .n .u64, .n .u64, .n .u64, .n .u64, .n .u64, .n .u64, .n .u64, .n .u64, .n .u64, .n .u64, .n .u64, .n .u64, .n .u64, .n .u64, .n .i64, .n .i64, .n .i64, .n .i64, .n .i64, .n .i64, .n .i64, .n .i64, .n .i64] 16 [.n .i64, .n .u64] 3 false true, .no, .no]⟩
noncomputable def evict_c0 (x0 : Int) (x1 : Int) (g6 : Nat → Nat → Int) : Int := if (↑(Int.toNat (g6 (Int.toNat x0) (16 : Nat))) : Int) < x1 then (↑(Int.toNat (g6 (Int.toNat x0) (16 : Nat))) : Int) else x1
noncomputable def evict_c1 (x0 : Int) (x1 : Int) (g6 : Nat → Nat → Int) (h6 : Nat → Nat → Int) : Bool := Go.Proofs.Ythgagehgiooklaa.G.pdec (Go.Proofs.Ythgagehgiooklaa.G.RowOk (g6 (Int.toNat x0)) (h6 (Int.toNat x0)) ∧ (0 : Int) ≤ (evict_c0 x0 x1 g6) ∧ (evict_c0 x0 x1 g6) ≤ g6 (Int.toNat x0) (16 : Nat))
noncomputable def evict_c2 (x0 : Int) (n6 : Nat) : Bool := Decidable.decide (x0 ≥ (↑n6 : Int))
noncomputable def T_evict (x0 : Int) (x1 : Int) (x2 : Bool) (x3 : Bool) (x4 : Int) (x5 : Int) (n6 : Nat) (g6 : Nat → Nat → Int) (h6 : Nat → Nat → Int) : Tr (List At) :=
 .br 7 (Decidable.decide (x0 < (0 : Int)))
 (.br 11 (Bool.true)
 (.ok [(.i ((1 : Int))), (.b (x2)), (.b (x3)), (.i (x4)), (.i (x5)), (.q (n6) (g6) ((16 : Nat)) ((2 : Nat)) (h6))])
 (.br 11 (Decidable.decide (x1 < (0 : Int)))
 (.ok [(.i ((1 : Int))), (.b (x2)), (.b (x3)), (.i (x4)), (.i (x5)), (.q (n6) (g6) ((16 : Nat)) ((2 : Nat)) (h6))])
 (.br 16 (x2)
 (.ok [(.i ((4 : Int))), (.b (x2)), (.b (x3)), (.i (x4)), (.i (x5)), (.q (n6) (g6) ((16 : Nat)) ((2 : Nat)) (h6))])
 (.no))))
 (.br 15 ((evict_c2 x0 n6))
 (.br 11 (Bool.true)
 (.ok [(.i ((1 : Int))), (.b (x2)), (.b (x3)), (.i (x4)), (.i (x5)), (.q (n6) (g6) ((16 : Nat)) ((2 : Nat)) (h6))])
 (.br 11 (Decidable.decide (x1 < (0 : Int)))
 (.ok [(.i ((1 : Int))), (.b (x2)), (.b (x3)), (.i (x4)), (.i (x5)), (.q (n6) (g6) ((16 : Nat)) ((2 : Nat)) (h6))])
 (.br 16 (x2)
 (.ok [(.i ((4 : Int))), (.b (x2)), (.b (x3)), (.i (x4)), (.i (x5)), (.q (n6) (g6) ((16 : Nat)) ((2 : Nat)) (h6))])
 (.no))))
 (.br 21 (Go.AM.within x0 n6)
 (.br 11 (Bool.false)
 (.ok [(.i ((1 : Int))), (.b (x2)), (.b (x3)), (.i (x4)), (.i (x5)), (.q (n6) (g6) ((16 : Nat)) ((2 : Nat)) (h6))])
 (.br 11 (Decidable.decide (x1 < (0 : Int)))
 (.ok [(.i ((1 : Int))), (.b (x2)), (.b (x3)), (.i (x4)), (.i (x5)), (.q (n6) (g6) ((16 : Nat)) ((2 : Nat)) (h6))])
 (.br 16 (x2)
 (.ok [(.i ((4 : Int))), (.b (x2)), (.b (x3)), (.i (x4)), (.i (x5)), (.q (n6) (g6) ((16 : Nat)) ((2 : Nat)) (h6))])
 (.br 0 ((evict_c1 x0 x1 g6 h6))
 (.ok [(.i ((0 : Int))), (.b (x2)), (.b (x3)), (.i (x4)), (.i (x5)), (.q (n6) (Go.Proofs.Ythgagehgiooklaa.G.updR g6 (Int.toNat x0) (Go.Proofs.Ythgagehgiooklaa.G.rowS (g6 (Int.toNat x0)) (h6 (Int.toNat x0)) (Int.toNat (if (↑(Int.toNat (g6 (Int.toNat x0) (16 : Nat))) : Int) < x1 then (↑(Int.toNat (g6 (Int.toNat x0) (16 : Nat))) : Int) else x1)))) ((16 : Nat)) ((2 : Nat)) (Go.Proofs.Ythgagehgiooklaa.G.updR h6 (Int.toNat x0) (Go.Proofs.Ythgagehgiooklaa.G.hS (h6 (Int.toNat x0)) (Int.toNat (if (↑(Int.toNat (g6 (Int.toNat x0) (16 : Nat))) : Int) < x1 then (↑(Int.toNat (g6 (Int.toNat x0) (16 : Nat))) : Int) else x1)))))])
 (.no)))))
 (.no)))
noncomputable def y_evict : Nat → Option Nat := (syOf3 [7, 15, 21, 11, 16] [] [])
noncomputable def TL_evict (l : List At) : Tr (List At) := T_evict (aI l 0) (aI l 1) (aB l 2) (aB l 3) (aI l 4) (aI l 5) (aRn l 6) (aRg l 6) (aMh l 6 16 2)
theorem e_evict (l : List At) : (call Try.prog Γ_flush y_evict noLoops 100 Try.f25 (mkV ish_evict l) (mkH ish_evict l)).bind (leafO 3 osh_evict) = TL_evict l := by kernel_rfl
noncomputable def F_evict : List At → Tr (List At) := TL_evict
theorem s_evict : SpecF Try.prog 25 (.eff (locF ish_evict osh_evict F_evict)) :=
  spec_loc (sy := y_evict) (fuel := 100) (Lp := noLoops) o_flush mixed ⟨Try.func25, by kernel_rfl, by kernel_rfl⟩ ish_evict osh_evict (noLoops_ok _) (hT_ways e_evict)
noncomputable def Γ_evict : Specs := upd Γ_flush 25 (.eff (locF ish_evict osh_evict F_evict))
theorem o_evict : SpecOK Try.prog Γ_evict := SpecOK.upd o_flush s_evict

/-! ### new -/

noncomputable def ish_new : FSh := ⟨[.v false [.k (.n .i64)]], []⟩
noncomputable def oshs_new : List FSh := [⟨[.tup [(false, [.p 0 0]), (false, [.k (.n .i64)])]], [.cells [.sw 1 25, .k .b, .k .b, .k (.n .i64), .k (.n .i64)], .nrows [.n .u64, .n .u64, .n .u64, .n .u64, .n .u64, .n .u64, .n .u64, .n .u64, .n .u64, .n .u64, .n .u64, .n .u64, .n .u64, .n .u64, .n .u64, .n .u64, .n .i64, .n .i64, .n .i64, .n .i64, .n .i64, .n .i64, .n .i64, .n .i64, .n .i64] 16 [.n .i64, .n .u64] 2 false true, .no]⟩, ⟨[.tup [(false, [.pnil]), (false, [.k (.n .i64)])]], []⟩]
noncomputable def T_new (x0 : Int) : Tr (Nat × List At) :=
 .br 6 (Decidable.decide (x0 < (64 : Int)))
 (.ok ((1 : Nat), [(.i ((1 : Int)))]))
 (.br 9 (Decidable.decide (x0 > (1024 : Int)))
 (.ok ((1 : Nat), [(.i ((1 : Int)))]))
 (.br 11 (Decidable.decide ((0 : Int) ≤ x0) && x0 == x0 && Decidable.decide (x0 ≤ (1073741824 : Int)))
 (.ok ((0 : Nat), [(.i ((0 : Int))), (.b (Bool.false)), (.b (Bool.false)), (.i ((0 : Int))), (.i ((0 : Int))), (.q (Int.toNat x0) (fun (_ _ : Nat) => (0 : Int)) ((16 : Nat)) ((2 : Nat)) (fun (_ _ : Nat) => (0 : Int)))]))
 (.no)))
noncomputable def y_new : Nat → Option Nat := (syOf3 [6, 9, 11] [] [])
noncomputable def TL_new (l : List At) : Tr (Nat × List At) := T_new (aI l 0)
theorem e_new (l : List At) : (call Try.prog Γ_evict y_new noLoops 100 Try.f13 (mkV ish_new l) (mkH ish_new l)).bind (leafOs 0 0 oshs_new) = TL_new l := by kernel_rfl
noncomputable def F_new : List At → Tr (Nat × List At) := TL_new
theorem s_new : SpecF Try.prog 13 (.eff (locFs ish_new oshs_new F_new)) :=
  spec_locs (sy := y_new) (fuel := 100) (Lp := noLoops) o_evict mixed ⟨Try.func13, by kernel_rfl, by kernel_rfl⟩ ish_new oshs_new (noLoops_ok _) (hT_waysS e_new)
noncomputable def Γ_new : Specs := upd Γ_evict 13 (.eff (locFs ish_new oshs_new F_new))
theorem o_new : SpecOK Try.prog Γ_new := SpecOK.upd o_evict s_new

/-! ### next -/

noncomputable def ish_next : FSh := ⟨[.v false [.p 0 0]], [.cells [.sq 1 1], .rows [.n .i64] false]⟩
noncomputable def osh_next : FSh := ⟨[.v false [.k (.n .i64)]], [.cells [.sq 1 1], .rows [.n .i64] false]⟩
noncomputable def T_next (x0 : Nat) (x1 : Nat) (n2 : Nat) (g2 : Nat → Nat → Int) : Tr (List At) :=
 .br 5 ((↑x1 : Int) == (0 : Int))
 (.ok [(.i ((0 : Int))), (.n (x0)), (.n (x1)), (.r (n2) (g2))])
 (.br 7 (Go.AM.within (0 : Int) x1)
 (.br 10 (Bool.true && Decidable.decide ((1 : Int) ≤ (↑x1 : Int)))
 (.br 12 (Decidable.decide (g2 (x0 + (0 : Nat)) (0 : Nat) < (0 : Int)))
 (.ok [(.i (Go.IntKind.wrap Go.IntKind.i64 ((0 : Int) - Go.IntKind.wrap Go.IntKind.i64 (g2 (x0 + (0 : Nat)) (0 : Nat) + (1 : Int))))), (.n (x0 + (1 : Nat))), (.n (Int.toNat (↑x1 : Int) - (1 : Nat))), (.r (n2) (g2))])
 (.ok [(.i (g2 (x0 + (0 : Nat)) (0 : Nat))), (.n (x0 + (1 : Nat))), (.n (Int.toNat (↑x1 : Int) - (1 : Nat))), (.r (n2) (g2))]))
 (.no))
 (.no))
noncomputable def y_next : Nat → Option Nat := (syOf3 [5, 7, 10, 12] [] [])
noncomputable def TL_next (l : List At) : Tr (List At) := T_next (aN l 0) (aN l 1) (aRn l 2) (aRg l 2)
theorem e_next (l : List At) : (call Try.prog Γ_new y_next noLoops 100 Try.f34 (mkV ish_next l) (mkH ish_next l)).bind (leafO 2 osh_next) = TL_next l := by kernel_rfl
noncomputable def F_next : List At → Tr (List At) := TL_next
theorem s_next : SpecF Try.prog 34 (.eff (locF ish_next osh_next F_next)) :=
  spec_loc (sy := y_next) (fuel := 100) (Lp := noLoops) o_new mixed ⟨Try.func34, by kernel_rfl, by kernel_rfl⟩ ish_next osh_next (noLoops_ok _) (hT_ways e_next)
noncomputable def Γ_next : Specs := upd Γ_new 34 (.eff (locF ish_next osh_next F_next))
theorem o_next : SpecOK Try.prog Γ_next := SpecOK.upd o_new s_next

end Go.Proofs.Ythgagehgiooklaa.G
end

/-
  What functions of the seat compute, printed by a program from the explorer.
-/
section
namespace Go.Proofs.Ythgagehgiooklaa.G
open Go Go.AM Go.Proofs
/-! ### the loop at 7 of fence -/

noncomputable def lsh_fence_7 : FSh := ⟨[.v false [.p 0 0], .v false [.k (.n .i64)], .any, .any, .any, .any, .any, .any, .any, .any, .any, .any, .any, .any, .any, .any, .any, .any, .any, .any, .any, .any, .any, .v false [.k (.n .i64)], .v false [.k (.n .i64)], .any, .any, .any, .any, .any, .any, .any, .any, .any, .any, .any, .any, .any, .any, .any, .any, .any, .any, .any, .any, .any, .any, .any, .any], [.cells [.sw 1 25, .k .b, .k .b, .k (.n .i64), .k (.n .i64)], .nrows [.n .u64, .n .u64, .n .u64, .n .u64, .n .u64, .n .u64, .n .u64, .n .u64, .n .u64, .n .u64, .n .u64, .n .u64, .n .u64, .n .u64, .n .u64, .n .u64, .n .i64, .n .i64, .n .i64, .n .i64, .n .i64, .n .i64, .n .i64, .n .i64, .n .i64] 16 [.n .i64, .n .u64] 3 false true, .no, .no]⟩
noncomputable def xsh_fence_7_0 : FSh := ⟨[.any, .any, .any, .any, .any, .any, .any, .any, .any, .any, .any, .any, .any, .any, .any, .any, .any, .any, .any, .any, .any, .any, .any, .any, .any, .any, .any, .any, .any, .any, .any, .any, .any, .any, .any, .any, .any, .any, .any, .any, .any, .any, .any, .any, .any, .any, .any, .any, .any], [.cells [.sw 1 25, .k .b, .k .b, .k (.n .i64), .k (.n .i64)], .nrows [.n .u64, .n .u64, .n .u64, .n .u64, .n .u64, .n .u64, .n .u64, .n .u64, .n .u64, .n .u64, .n .u64, .n .u64, .n .u64, .n .u64, .n .u64, .n .u64, .n .i64, .n .i64, .n .i64, .n .i64, .n .i64, .n .i64, .n .i64, .n .i64, .n .i64] 16 [.n .i64, .n .u64] 3 false true, .no, .no]⟩
noncomputable def xs_fence_7 : Exs := fun e => match e with
  | .normal => some lsh_fence_7
  | .exit n => (match Nat.beq n 0 with | true => some xsh_fence_7_0 | false => none)
  | .ret => none
noncomputable def B_fence_7 (x0 : Int) (x1 : Int) (x2 : Int) (x3 : Bool) (x4 : Bool) (x5 : Int) (x6 : Int) (n7 : Nat) (g7 : Nat → Nat → Int) (h7 : Nat → Nat → Int) : Tr (Ex × List At) :=
 .br 25 (Decidable.decide (x2 < x1))
 (.br 32 (Go.AM.within x2 n7)
 (.br 200037 (Go.AM.within x0 (8 : Nat))
 (.br 39 (Decidable.decide (g7 (Int.toNat x2) ((17 : Nat) + Int.toNat x0 * (1 : Nat)) > (0 : Int)))
 (.br 200045 (Go.AM.within x0 (8 : Nat))
 (.br 0 (Go.Proofs.Ythgagehgiooklaa.G.pdec (Go.Proofs.Ythgagehgiooklaa.G.RowOk (g7 (Int.toNat x2)) (h7 (Int.toNat x2)) ∧ (0 : Int) ≤ g7 (Int.toNat x2) ((17 : Nat) + Int.toNat x0 * (1 : Nat)) ∧ g7 (Int.toNat x2) ((17 : Nat) + Int.toNat x0 * (1 : Nat)) ≤ g7 (Int.toNat x2) (16 : Nat)))
 (.ok (.normal, [(.i (x0)), (.i (x1)), (.i (Go.IntKind.wrap Go.IntKind.i64 (x2 + (1 : Int)))), (.b (x3)), (.b (x4)), (.i (x5)), (.i (x6)), (.q (n7) (Go.Proofs.Ythgagehgiooklaa.G.updR g7 (Int.toNat x2) (Go.Proofs.Ythgagehgiooklaa.G.rowS (g7 (Int.toNat x2)) (h7 (Int.toNat x2)) (Int.toNat (g7 (Int.toNat x2) ((17 : Nat) + Int.toNat x0 * (1 : Nat)))))) ((16 : Nat)) ((2 : Nat)) (Go.Proofs.Ythgagehgiooklaa.G.updR h7 (Int.toNat x2) (Go.Proofs.Ythgagehgiooklaa.G.hS (h7 (Int.toNat x2)) (Int.toNat (g7 (Int.toNat x2) ((17 : Nat) + Int.toNat x0 * (1 : Nat)))))))]))
 (.no))
 (.no))
 (.ok (.normal, [(.i (x0)), (.i (x1)), (.i (Go.IntKind.wrap Go.IntKind.i64 (x2 + (1 : Int)))), (.b (x3)), (.b (x4)), (.i (x5)), (.i (x6)), (.q (n7) (g7) ((16 : Nat)) ((2 : Nat)) (h7))])))
 (.no))
 (.no))
 (.ok (.exit 0, [(.b (x3)), (.b (x4)), (.i (x5)), (.i (x6)), (.q (n7) (g7) ((16 : Nat)) ((2 : Nat)) (h7))]))
noncomputable def y_fence_7 : Nat → Option Nat := (syOf3 [25, 32, 39] [] [37, 45])
noncomputable def BL_fence_7 (l : List At) : Tr (Ex × List At) := B_fence_7 (aI l 0) (aI l 1) (aI l 2) (aB l 3) (aB l 4) (aI l 5) (aI l 6) (aRn l 7) (aRg l 7) (aMh l 7 16 2)
theorem eB_fence_7 (l : List At) : (exec Try.prog Γ_next y_fence_7 noLoops 100 (loopAt Try.f16 7) ⟨mkV lsh_fence_7 l, mkH lsh_fence_7 l⟩).bind (leafL 3 xs_fence_7) = BL_fence_7 l := by kernel_rfl
/- by hand: O_fence_7 (x0 : Int) (x1 : Int) (x2 : Int) (x3 : Bool) (x4 : Bool) (x5 : Int) (x6 : Int) (n7 : Nat) (g7 : Nat → Nat → Int) (h7 : Nat → Nat → Int) : Tr (Ex × List At); OL_fence_7 (l) := O_fence_7 (aI l 0) (aI l 1) (aI l 2) (aB l 3) (aB l 4) (aI l 5) (aI l 6) (aRn l 7) (aRg l 7) (aMh l 7 16 2); μ_fence_7 : List At → Nat; rd_fence_7 : ∀ l r, (OL_fence_7 l).val = some r → RoundA BL_fence_7 OL_fence_7 μ_fence_7 l r -/

end Go.Proofs.Ythgagehgiooklaa.G
end

/-
  A memory that lasts, in plain words: what each call makes of it.
-/
section
namespace Go.Proofs.Ythgagehgiooklaa.G
open Go Go.AM Go.Proofs

structure Mem where
  n : Nat
  g : Nat → Nat → Int
  h : Nat → Nat → Int
  off : Bool
  burns : Bool
  left : Int
  steps : Int

def mm (l : List At) (k : Nat) : Mem := ⟨aRn l (k + 4), aRg l (k + 4), aMh l (k + 4) 16 2, aB l k, aB l (k + 1), aI l (k + 2), aI l (k + 3)⟩
def Mem.ats (m : Mem) : List At := [.b m.off, .b m.burns, .i m.left, .i m.steps, .q m.n m.g 16 2 m.h]

/-- A memory of which so many steps were done at most. -/
def Mem.Ok (K : Int) (m : Mem) : Prop := (m.burns = true → 0 ≤ m.left ∧ m.left ≤ 9223372036854775807) ∧ 0 ≤ m.steps ∧ m.steps ≤ K ∧ m.n ≤ 1073741824 ∧ ∀ i, i < m.n → RowOk (m.g i) (m.h i) ∧ m.g i 16 ≤ m.steps

theorem Mem.Ok.mono {K K' : Int} {m : Mem} (h : m.Ok K) (hk : K ≤ K') : m.Ok K' := ⟨h.1, h.2.1, by have := h.2.2.1; omega, h.2.2.2.1, h.2.2.2.2⟩

def Mem.po (m : Mem) : Bool := offB m.off m.burns m.left
def Mem.cod (m : Mem) : Int := codeI m.off m.burns m.left
def Mem.stp (m : Mem) : Mem := ⟨m.n, m.g, m.h, m.po, m.burns, leftI m.off m.burns m.left, stepsI m.off m.burns m.left m.steps⟩
/-- Other rows. -/
def Mem.wit (m : Mem) (g h : Nat → Nat → Int) : Mem := ⟨m.n, g, h, m.off, m.burns, m.left, m.steps⟩

def Mem.bad (m : Mem) (i x : Int) : Bool := decide (i < 0) || decide (i ≥ (m.n : Int)) || decide (x < 0) || decide (x ≥ 8)

/-- A row with one store more. -/
def stR (r : Nat → Int) (w : Nat) (v : Int) : Nat → Int := fun c => if c = 16 then r 16 + 1 else if c = w then v else r c
def stH (hr : Nat → Int) (k : Nat) (w v : Int) : Nat → Int := fun j => if j = k * 2 then w else if j = k * 2 + 1 then v else hr j
def Mem.stC (m : Mem) (i w : Int) : Int := bif m.bad i w then 1 else m.cod
def Mem.stM (m : Mem) (i w v : Int) : Mem := bif m.bad i w then m else bif m.po then m.stp else
  m.stp.wit (updR m.g i.toNat (stR (m.g i.toNat) w.toNat v)) (updR m.h i.toNat (stH (m.h i.toNat) (m.g i.toNat 16).toNat w v))

def flR (r : Nat → Int) (c : Nat) : Nat → Int := fun k => if k = 17 + c then r 16 else r k
def Mem.flM (m : Mem) (c i : Int) : Mem := bif m.bad i c then m else bif m.po then m.stp else m.stp.wit (updR m.g i.toNat (flR (m.g i.toNat) c.toNat)) m.h

/-- All rows from the 'a'-th on, as far as they have something flushed. -/
def feG (n : Nat) (g h : Nat → Nat → Int) (k a : Nat) : Nat → Nat → Int := fun i => if a ≤ i ∧ i < n ∧ g i k > 0 then rowS (g i) (h i) (g i k).toNat else g i
def feH (n : Nat) (g h : Nat → Nat → Int) (k a : Nat) : Nat → Nat → Int := fun i => if a ≤ i ∧ i < n ∧ g i k > 0 then hS (h i) (g i k).toNat else h i
def corB (c : Int) : Bool := decide (c < 0) || decide (c ≥ 8)
def Mem.feC (m : Mem) (c : Int) : Int := bif corB c then 1 else m.cod
def Mem.feM (m : Mem) (c : Int) : Mem := bif corB c then m else bif m.po then m.stp else m.stp.wit (feG m.n m.g m.h (17 + c.toNat) 0) (feH m.n m.g m.h (17 + c.toNat) 0)

def Mem.ebad (m : Mem) (i x : Int) : Bool := decide (i < 0) || decide (i ≥ (m.n : Int)) || decide (x < 0)
def evK (r : Nat → Int) (x : Int) : Nat := (if r 16 < x then r 16 else x).toNat
def Mem.evC (m : Mem) (i x : Int) : Int := bif m.ebad i x then 1 else bif m.off then 4 else 0
def Mem.evM (m : Mem) (i x : Int) : Mem := bif m.ebad i x then m else bif m.off then m else
  m.wit (updR m.g i.toNat (rowS (m.g i.toNat) (m.h i.toNat) (evK (m.g i.toNat) x))) (updR m.h i.toNat (hS (m.h i.toNat) (evK (m.g i.toNat) x)))

def Mem.fuM (m : Mem) (x : Int) : Mem := ⟨m.n, m.g, m.h, m.off, decide (x ≥ 0), x, m.steps⟩

/-! ### a crash -/

/-- The 'j'-th number of what is kept. -/
def kv (q : Nat → Int) (kn j : Nat) : Int := if j < kn then (if q j < 0 then -(q j + 1) else q j) else 0
/-- How many of the 'd' rows from 'a' on have stores that are not sure. -/
def cntU (g : Nat → Nat → Int) : (a d : Nat) → Nat
  | _, 0 => 0
  | a, d + 1 => (if g a 16 > 0 then 1 else 0) + cntU g (a + 1) d
def crK (q : Nat → Int) (kn j : Nat) (s : Int) : Nat := (kv q kn j % (s + 1)).toNat
def crR (r hr : Nat → Int) (k : Nat) : Nat → Int := fun c => if c < 8 then apF (sur r) hr 0 k c else if c < 16 then apF (sur r) hr 0 k (c - 8) else if c < 25 then 0 else r c
def crG (n : Nat) (g h : Nat → Nat → Int) (q : Nat → Int) (kn a : Nat) : Nat → Nat → Int := fun i =>
  if a ≤ i ∧ i < n ∧ g i 16 > 0 then crR (g i) (h i) (crK q kn (cntU g a (i - a)) (g i 16)) else g i
def Mem.crM (m : Mem) (q : Nat → Int) (kn : Nat) : Mem := ⟨m.n, crG m.n m.g m.h q kn 0, m.h, false, false, m.left, m.steps⟩

/-- What is sure: rows of eight. -/
def suG (n : Nat) (g : Nat → Nat → Int) : Nat → Nat → Int := fun i c => if i < n ∧ c < 8 then g i (8 + c) else 0

def newM (n : Nat) : Mem := ⟨n, fun _ _ => 0, fun _ _ => 0, false, false, 0, 0⟩

/-! ### a memory stays one that may be -/

theorem po_left {m : Mem} {K : Int} (h : m.Ok K) : (m.burns = true → 0 ≤ leftI m.off m.burns m.left ∧ leftI m.off m.burns m.left ≤ 9223372036854775807) := by
  intro hb
  obtain ⟨h1, h2⟩ := h.1 hb
  unfold leftI offB
  rw [hb]
  cases m.off with
  | true => exact ⟨h1, h2⟩
  | false =>
    by_cases hl : m.left = 0
    · rw [hl]; exact ⟨by decide, by decide⟩
    · have : (m.left == 0) = false := by simpa using hl
      rw [this]
      show 0 ≤ m.left - 1 ∧ m.left - 1 ≤ 9223372036854775807
      omega

theorem stp_steps (m : Mem) : m.stp.steps = if m.po then m.steps else m.steps + 1 := by
  show stepsI m.off m.burns m.left m.steps = _
  unfold stepsI Mem.po
  cases offB m.off m.burns m.left <;> rfl

theorem stp_ok {m : Mem} {K : Int} (h : m.Ok K) : m.stp.Ok (K + 1) := by
  have hs : m.stp.steps = m.steps ∨ m.stp.steps = m.steps + 1 := by rw [stp_steps]; split <;> simp
  refine ⟨po_left h, ?_, ?_, h.2.2.2.1, fun i hi => ⟨(h.2.2.2.2 i hi).1, ?_⟩⟩
  · have := h.2.1; omega
  · have := h.2.2.1; omega
  · show m.g i 16 ≤ m.stp.steps
    have := (h.2.2.2.2 i hi).2
    omega

theorem wit_ok {m : Mem} {K : Int} {g' h' : Nat → Nat → Int} (h : m.Ok K) (hr : ∀ i, i < m.n → RowOk (g' i) (h' i) ∧ g' i 16 ≤ m.steps) : (m.wit g' h').Ok K := ⟨h.1, h.2.1, h.2.2.1, h.2.2.2.1, hr⟩

theorem rowOk_st {r hr : Nat → Int} {w : Int} {v : Int} (h : RowOk r hr) (h1 : r 16 < 1000000) (hw : 0 ≤ w ∧ w < 8) : RowOk (stR r w.toNat v) (stH hr (r 16).toNat w v) := by
  obtain ⟨a1, a2, a3, a4⟩ := h
  have e : stR r w.toNat v 16 = r 16 + 1 := if_pos rfl
  refine ⟨by rw [e]; omega, by rw [e]; omega, fun c h5 h6 => ?_, fun k hk => ?_⟩
  · rw [e]
    have : stR r w.toNat v c = r c := by unfold stR; rw [if_neg (by omega), if_neg (by omega)]
    rw [this]
    have := a3 c h5 h6
    omega
  · rw [e] at hk
    unfold stH
    by_cases hk2 : k = (r 16).toNat
    · rw [if_pos (by omega)]; exact hw
    · rw [if_neg (by omega), if_neg (by omega)]
      exact a4 k (by omega)

theorem bad_no {m : Mem} {i x : Int} (h : m.bad i x = false) : 0 ≤ i ∧ i < m.n ∧ 0 ≤ x ∧ x < 8 := by
  unfold Mem.bad at h
  simp only [Bool.or_eq_false_iff, decide_eq_false_iff_not] at h
  omega

theorem po_no {m : Mem} (h : m.po = false) : m.stp.steps = m.steps + 1 := by rw [stp_steps, h]; rfl

theorem stM_ok {m : Mem} {K : Int} {i w v : Int} (h : m.Ok K) (hK : K < 1000000) : (m.stM i w v).Ok (K + 1) := by
  unfold Mem.stM
  cases hb : m.bad i w with
  | true => exact h.mono (by omega)
  | false =>
    cases hp : m.po with
    | true => exact stp_ok h
    | false =>
      obtain ⟨h0, h1, h2, h3⟩ := bad_no hb
      refine wit_ok (stp_ok h) fun j hj => ?_
      obtain ⟨hr, hs⟩ := h.2.2.2.2 j hj
      have hK2 := h.2.2.1
      rw [po_no hp]
      by_cases hji : j = i.toNat
      · subst hji
        rw [updR_self, updR_self]
        exact ⟨rowOk_st hr (by omega) ⟨h2, h3⟩, by show stR _ _ _ 16 ≤ _; rw [show stR (m.g i.toNat) w.toNat v 16 = m.g i.toNat 16 + 1 from if_pos rfl]; omega⟩
      · rw [updR_ne hji, updR_ne hji]
        exact ⟨hr, by omega⟩

theorem rowOk_fl {r hr : Nat → Int} {c : Nat} (h : RowOk r hr) : RowOk (flR r c) hr := by
  obtain ⟨a1, a2, a3, a4⟩ := h
  have e : flR r c 16 = r 16 := if_neg (by omega)
  refine ⟨by rw [e]; exact a1, by rw [e]; exact a2, fun k h5 h6 => ?_, fun k hk => a4 k (by rw [e] at hk; exact hk)⟩
  rw [e]
  unfold flR
  split
  · omega
  · exact a3 k h5 h6

theorem flM_ok {m : Mem} {K : Int} {c i : Int} (h : m.Ok K) : (m.flM c i).Ok (K + 1) := by
  unfold Mem.flM
  cases hb : m.bad i c with
  | true => exact h.mono (by omega)
  | false =>
    cases hp : m.po with
    | true => exact stp_ok h
    | false =>
      refine wit_ok (stp_ok h) fun j hj => ?_
      obtain ⟨hr, hs⟩ := h.2.2.2.2 j hj
      rw [po_no hp]
      by_cases hji : j = i.toNat
      · subst hji
        rw [updR_self]
        exact ⟨rowOk_fl hr, by rw [show flR (m.g i.toNat) c.toNat 16 = m.g i.toNat 16 from if_neg (by omega)]; omega⟩
      · rw [updR_ne hji]
        exact ⟨hr, by omega⟩

theorem rowS16 (r hr : Nat → Int) (n : Nat) : rowS r hr n 16 = r 16 - n := if_pos rfl

theorem fe_ok {n : Nat} {g h : Nat → Nat → Int} {k a : Nat} {s : Int} (hk : 17 ≤ k ∧ k < 25) (hr : ∀ i, i < n → RowOk (g i) (h i) ∧ g i 16 ≤ s) : ∀ i, i < n → RowOk (feG n g h k a i) (feH n g h k a i) ∧ feG n g h k a i 16 ≤ s := by
  intro i hi
  obtain ⟨h1, h2⟩ := hr i hi
  unfold feG feH
  by_cases hc : a ≤ i ∧ i < n ∧ g i k > 0
  · rw [if_pos hc, if_pos hc]
    have := h1.2.2.1 k hk.1 hk.2
    exact ⟨rowOk_mk h1 (by omega), by rw [rowS16]; omega⟩
  · rw [if_neg hc, if_neg hc]; exact ⟨h1, h2⟩

theorem corB_no {c : Int} (h : corB c = false) : 0 ≤ c ∧ c < 8 := by
  unfold corB at h
  simp only [Bool.or_eq_false_iff, decide_eq_false_iff_not] at h
  omega

theorem feM_ok {m : Mem} {K : Int} {c : Int} (h : m.Ok K) : (m.feM c).Ok (K + 1) := by
  unfold Mem.feM
  cases hb : corB c with
  | true => exact h.mono (by omega)
  | false =>
    cases hp : m.po with
    | true => exact stp_ok h
    | false =>
      have := corB_no hb
      refine wit_ok (stp_ok h) (fe_ok (by omega) fun j hj => ⟨(h.2.2.2.2 j hj).1, ?_⟩)
      rw [po_no hp]
      have := (h.2.2.2.2 j hj).2
      omega

theorem ebad_no {m : Mem} {i x : Int} (h : m.ebad i x = false) : 0 ≤ i ∧ i < m.n ∧ 0 ≤ x := by
  unfold Mem.ebad at h
  simp only [Bool.or_eq_false_iff, decide_eq_false_iff_not] at h
  omega

theorem evK_le {r : Nat → Int} {x : Int} (h : 0 ≤ r 16) (hx : 0 ≤ x) : (evK r x : Int) ≤ r 16 := by unfold evK; split <;> omega

theorem evM_ok {m : Mem} {K : Int} {i x : Int} (h : m.Ok K) : (m.evM i x).Ok K := by
  unfold Mem.evM
  cases hb : m.ebad i x with
  | true => exact h
  | false =>
    cases hp : m.off with
    | true => exact h
    | false =>
      obtain ⟨h0, h1, h2⟩ := ebad_no hb
      refine wit_ok h fun j hj => ?_
      obtain ⟨hr, hs⟩ := h.2.2.2.2 j hj
      by_cases hji : j = i.toNat
      · subst hji
        rw [updR_self, updR_self]
        have := evK_le hr.1 h2
        exact ⟨rowOk_mk hr this, by rw [rowS16]; omega⟩
      · rw [updR_ne hji, updR_ne hji]
        exact ⟨hr, hs⟩

theorem fuM_ok {m : Mem} {K : Int} {x : Int} (h : m.Ok K) (hx : x ≤ 9223372036854775807) : (m.fuM x).Ok K :=
  ⟨fun hb => ⟨of_decide_eq_true hb, hx⟩, h.2⟩

theorem crM_ok {m : Mem} {K : Int} {q : Nat → Int} {kn : Nat} (h : m.Ok K) : (m.crM q kn).Ok K := by
  refine ⟨fun hb => (nomatch hb), h.2.1, h.2.2.1, h.2.2.2.1, fun i hi => ?_⟩
  obtain ⟨hr, hs⟩ := h.2.2.2.2 i hi
  show RowOk (crG m.n m.g m.h q kn 0 i) (m.h i) ∧ crG m.n m.g m.h q kn 0 i 16 ≤ m.steps
  unfold crG
  by_cases hc : 0 ≤ i ∧ i < m.n ∧ m.g i 16 > 0
  · rw [if_pos hc]
    have e : ∀ k c, 16 ≤ c → c < 25 → crR (m.g i) (m.h i) k c = 0 := fun k c h5 h6 => by
      unfold crR
      rw [if_neg (by omega), if_neg (by omega), if_pos h6]
    have hst := h.2.1
    exact ⟨⟨by rw [e _ _ (by omega) (by omega)]; decide, by rw [e _ _ (by omega) (by omega)]; decide, fun c h5 h6 => by rw [e _ _ (by omega) h6, e _ _ (by omega) (by omega)]; decide, fun k hk => by rw [e _ _ (by omega) (by omega)] at hk; omega⟩, by rw [e _ _ (by omega) (by omega)]; omega⟩
  · rw [if_neg hc]
    exact ⟨hr, hs⟩

theorem newM_ok {n : Nat} (h : n ≤ 1073741824) : (newM n).Ok 0 := ⟨fun hb => (nomatch hb), Int.le_refl _, Int.le_refl _, h, fun _ _ => ⟨⟨Int.le_refl _, by show (0 : Int) ≤ 1000000; decide, fun _ _ _ => ⟨Int.le_refl _, Int.le_refl _⟩, fun k hk => by have : (k : Int) < 0 := hk; omega⟩, Int.le_refl _⟩⟩

/-- A guard that is known to be so. -/
theorem po_cod {m : Mem} (h : m.po = false) : m.cod = 0 := by unfold Mem.cod codeI; rw [show offB m.off m.burns m.left = false from h]; rfl
theorem po_cod4 {m : Mem} (h : m.po = true) : m.cod = 4 := by unfold Mem.cod codeI; rw [show offB m.off m.burns m.left = true from h]; rfl
end Go.Proofs.Ythgagehgiooklaa.G
end

/-
  The loop of Fence: what is flushed becomes sure, row by row.
-/
section
namespace Go.Proofs.Ythgagehgiooklaa.G
open Go Go.AM Go.Proofs

def preF (x0 x1 x2 : Int) (n : Nat) (g h : Nat → Nat → Int) : Prop :=
  0 ≤ x0 ∧ x0 < 8 ∧ 0 ≤ x2 ∧ x2 ≤ x1 ∧ x1 = n ∧ n ≤ 1073741824 ∧ ∀ i, x2.toNat ≤ i → i < n → RowOk (g i) (h i)

noncomputable def O_fence_7 (x0 x1 x2 : Int) (x3 x4 : Bool) (x5 x6 : Int) (n7 : Nat) (g7 h7 : Nat → Nat → Int) : Tr (Ex × List At) :=
  .br 0 (pdec (preF x0 x1 x2 n7 g7 h7)) (.ok (.exit 0, [.b x3, .b x4, .i x5, .i x6, .q n7 (feG n7 g7 h7 (17 + x0.toNat) x2.toNat) 16 2 (feH n7 g7 h7 (17 + x0.toNat) x2.toNat)])) .no
noncomputable def OL_fence_7 (l : List At) : Tr (Ex × List At) := O_fence_7 (aI l 0) (aI l 1) (aI l 2) (aB l 3) (aB l 4) (aI l 5) (aI l 6) (aRn l 7) (aRg l 7) (aMh l 7 16 2)
def μ_fence_7 (l : List At) : Nat := (aI l 1 - aI l 2).toNat

theorem fe_step {n : Nat} {g h : Nat → Nat → Int} {k a : Nat} (ha : a < n) (hk : g a k > 0) :
    feG n (updR g a (rowS (g a) (h a) (g a k).toNat)) (updR h a (hS (h a) (g a k).toNat)) k (a + 1) = feG n g h k a ∧ feH n (updR g a (rowS (g a) (h a) (g a k).toNat)) (updR h a (hS (h a) (g a k).toNat)) k (a + 1) = feH n g h k a := by
  refine ⟨funext fun j => ?_, funext fun j => ?_⟩
  all_goals
    first | unfold feG | unfold feH
    by_cases hj : j = a
    · subst hj
      rw [if_neg (by omega), updR_self, if_pos ⟨Nat.le_refl _, ha, hk⟩]
    · rw [updR_ne hj, updR_ne hj]
      by_cases hc : a ≤ j ∧ j < n ∧ g j k > 0
      · rw [if_pos ⟨by omega, hc.2⟩, if_pos hc]
      · rw [if_neg (fun hh => hc ⟨by omega, hh.2⟩), if_neg hc]

theorem fe_skip {n : Nat} {g h : Nat → Nat → Int} {k a : Nat} (hk : ¬ g a k > 0) : feG n g h k (a + 1) = feG n g h k a ∧ feH n g h k (a + 1) = feH n g h k a := by
  refine ⟨funext fun j => ?_, funext fun j => ?_⟩
  all_goals
    first | unfold feG | unfold feH
    by_cases hj : j = a
    · subst hj
      rw [if_neg (by omega), if_neg (fun hh => hk hh.2.2)]
    · by_cases hc : a ≤ j ∧ j < n ∧ g j k > 0
      · rw [if_pos ⟨by omega, hc.2⟩, if_pos hc]
      · rw [if_neg (fun hh => hc ⟨by omega, hh.2⟩), if_neg hc]

theorem fe_end {n : Nat} {g h : Nat → Nat → Int} {k a : Nat} (ha : n ≤ a) : feG n g h k a = g ∧ feH n g h k a = h :=
  ⟨funext fun j => if_neg (by omega), funext fun j => if_neg (by omega)⟩

theorem rd_fence_7 : ∀ l r, (OL_fence_7 l).val = some r → RoundS BL_fence_7 OL_fence_7 μ_fence_7 l r := by
  intro l r h
  obtain ⟨hc, h⟩ := guard_val h
  obtain ⟨c0, c1, c2, c3, c4, c5, c6⟩ := of_pdec hc
  have hr := val_ok h
  unfold RoundS BL_fence_7 B_fence_7
  generalize hx0 : aI l 0 = x0 at *
  generalize hx1 : aI l 1 = x1 at *
  generalize hx2 : aI l 2 = x2 at *
  generalize hn : aRn l 7 = n at *
  generalize hg : aRg l 7 = g at *
  generalize hh : aMh l 7 16 2 = hm at *
  refine brD (fun h1 => brW (fun _ => brW (fun _ => ?_) (fun hh => by exfalso; omega)) (fun hh => by exfalso; omega)) (fun h1 => ?_)
  · have hw : IntKind.i64.wrap (x2 + 1) = x2 + 1 := wrap_i64 (by omega) (by omega)
    have e2 : (x2 + 1).toNat = x2.toNat + 1 := by omega
    have hμ : (x1 - (x2 + 1)).toNat < μ_fence_7 l := by unfold μ_fence_7; rw [hx1, hx2]; omega
    rw [hw, Nat.mul_one]
    refine brD (fun h2 => brW (fun _ => ?_) (fun hh => by exfalso; omega)) (fun h2 => ?_)
    · have ho := c6 x2.toNat (Nat.le_refl _) (by omega)
      have ho3 := ho.2.2.1 (17 + x0.toNat) (by omega) (by omega)
      refine brT (pdec_yes ⟨ho, by omega, ho3.2⟩) ?_
      obtain ⟨k1, k2⟩ := fe_step (n := n) (g := g) (h := hm) (k := 17 + x0.toNat) (a := x2.toNat) (by omega) h2
      generalize hg' : updR g x2.toNat (rowS (g x2.toNat) (hm x2.toNat) (g x2.toNat (17 + x0.toNat)).toNat) = g' at *
      generalize hh' : updR hm x2.toNat (hS (hm x2.toNat) (g x2.toNat (17 + x0.toNat)).toNat) = h' at *
      have hq : preF x0 x1 (x2 + 1) n g' h' := ⟨c0, c1, by omega, by omega, c4, c5, fun i h5 h6 => by
        rw [← hg', ← hh', updR_ne (by omega), updR_ne (by omega)]
        exact c6 i (by omega) h6⟩
      rw [← k1, ← k2, ← e2] at h
      exact on_ _ r (AtsEq.refl _) hμ ((br_t (g := 0) (pdec_yes hq)).trans h) rfl (AtsEq.refl _)
    · obtain ⟨k1, k2⟩ := fe_skip (n := n) (g := g) (h := hm) (k := 17 + x0.toNat) (a := x2.toNat) h2
      have hq : preF x0 x1 (x2 + 1) n g hm := ⟨c0, c1, by omega, by omega, c4, c5, fun i h5 h6 => c6 i (by omega) h6⟩
      rw [← k1, ← k2, ← e2] at h
      exact on_ _ r (AtsEq.refl _) hμ ((br_t (g := 0) (pdec_yes hq)).trans h) rfl (AtsEq.refl _)
  · subst hr
    obtain ⟨k1, k2⟩ := fe_end (n := n) (g := g) (h := hm) (k := 17 + x0.toNat) (a := x2.toNat) (by omega)
    refine out_ (by simp) rfl ?_
    show AtsEq _ [_, _, _, _, At.q n (feG n g hm (17 + x0.toNat) x2.toNat) 16 2 (feH n g hm (17 + x0.toNat) x2.toNat)]
    rw [k1, k2]
    exact AtsEq.refl _
end Go.Proofs.Ythgagehgiooklaa.G
end

/-
  What functions of the seat compute, printed by a program from the explorer.
-/
section
namespace Go.Proofs.Ythgagehgiooklaa.G
open Go Go.AM Go.Proofs
theorem f_fence_7 : LoopF Try.prog 3 (loopAt Try.f16 7) (loopFn 3 lsh_fence_7 xs_fence_7 OL_fence_7) :=
  loop_sat (sy := y_fence_7) (fuel := 100) (Lp := noLoops) o_next mixed (loopsOK_at (noLoops_ok _) 7) rfl eB_fence_7 rd_fence_7
noncomputable def Lp_fence_7 : Loops := Loops.set noLoops 7 (loopFn 3 lsh_fence_7 xs_fence_7 OL_fence_7)
theorem lk_fence_7 : LoopsFn Try.prog 3 Lp_fence_7 Try.f16 := loopsFn_set (noLoops_ok _) (by kernel_rfl) f_fence_7

/-! ### fence -/

noncomputable def ish_fence : FSh := ⟨[.v false [.p 0 0], .v false [.k (.n .i64)]], [.cells [.sw 1 25, .k .b, .k .b, .k (.n .i64), .k (.n .i64)], .nrows [.n .u64, .n .u64, .n .u64, .n .u64, .n .u64, .n .u64, .n .u64, .n .u64, .n .u64, .n .u64, .n .u64, .n .u64, .n .u64, .n .u64, .n .u64, .n .u64, .n .i64, .n .i64, .n .i64, .n .i64, .n .i64, .n .i64, .n .i64, .n .i64, .n .i64] 16 [.n .i64, .n .u64] 2 false true, .no]⟩
noncomputable def osh_fence : FSh := ⟨[.v false [.k (.n .i64)]], [.cells [.sw 1 25, .k .b, .k .b, .k (.n .i64), .k (.n .i64)], .nrows [.n .u64, .n .u64, .n .u64, .n .u64, .n .u64, .n .u64, .n .u64, .n .u64, .n .u64, .n .u64, .n .u64, .n .u64, .n .u64, .n .u64, .n .u64, .n .u64, .n .i64, .n .i64, .n .i64, .n .i64, .n .i64, .n .i64, .n .i64, .n .i64, .n .i64] 16 [.n .i64, .n .u64] 3 false true, .no, .no]⟩
noncomputable def T_fence (x0 : Int) (x1 : Bool) (x2 : Bool) (x3 : Int) (x4 : Int) (n5 : Nat) (g5 : Nat → Nat → Int) (h5 : Nat → Nat → Int) : Tr (List At) :=
 .br 10 (Decidable.decide (x0 < (0 : Int)))
 (.ok [(.i ((1 : Int))), (.b (x1)), (.b (x2)), (.i (x3)), (.i (x4)), (.q (n5) (g5) ((16 : Nat)) ((2 : Nat)) (h5))])
 (.br 13 (Decidable.decide (x0 ≥ (8 : Int)))
 (.ok [(.i ((1 : Int))), (.b (x1)), (.b (x2)), (.i (x3)), (.i (x4)), (.q (n5) (g5) ((16 : Nat)) ((2 : Nat)) (h5))])
 (.br 0 (Go.Proofs.Ythgagehgiooklaa.G.pdec (x2 = Bool.true → (0 : Int) ≤ x3 ∧ x3 ≤ (9223372036854775807 : Int)))
 (.br 0 (Go.Proofs.Ythgagehgiooklaa.G.pdec ((0 : Int) ≤ x4 ∧ x4 ≤ (1000000000 : Int)))
 (.br 17 (Go.Proofs.Ythgagehgiooklaa.G.codeI x1 x2 x3 != (0 : Int))
 (.ok [(.i (Go.Proofs.Ythgagehgiooklaa.G.codeI x1 x2 x3)), (.b (Go.Proofs.Ythgagehgiooklaa.G.offB x1 x2 x3)), (.b (x2)), (.i (Go.Proofs.Ythgagehgiooklaa.G.leftI x1 x2 x3)), (.i (Go.Proofs.Ythgagehgiooklaa.G.stepsI x1 x2 x3 x4)), (.q (n5) (g5) ((16 : Nat)) ((2 : Nat)) (h5))])
 (.br 0 (Go.Proofs.Ythgagehgiooklaa.G.pdec (Go.Proofs.Ythgagehgiooklaa.G.preF x0 (↑n5 : Int) (0 : Int) n5 g5 h5))
 (.ok [(.i ((0 : Int))), (.b (Go.Proofs.Ythgagehgiooklaa.G.offB x1 x2 x3)), (.b (x2)), (.i (Go.Proofs.Ythgagehgiooklaa.G.leftI x1 x2 x3)), (.i (Go.Proofs.Ythgagehgiooklaa.G.stepsI x1 x2 x3 x4)), (.q (n5) (Go.Proofs.Ythgagehgiooklaa.G.feG n5 g5 h5 ((17 : Nat) + Int.toNat x0) (0 : Nat)) ((16 : Nat)) ((2 : Nat)) (Go.Proofs.Ythgagehgiooklaa.G.feH n5 g5 h5 ((17 : Nat) + Int.toNat x0) (0 : Nat)))])
 (.no)))
 (.no))
 (.no)))
noncomputable def y_fence : Nat → Option Nat := (syOf3 [10, 13, 17] [] [])
noncomputable def TL_fence (l : List At) : Tr (List At) := T_fence (aI l 0) (aB l 1) (aB l 2) (aI l 3) (aI l 4) (aRn l 5) (aRg l 5) (aMh l 5 16 2)
theorem e_fence (l : List At) : (call Try.prog Γ_next y_fence Lp_fence_7 100 Try.f16 (mkV ish_fence l) (mkH ish_fence l)).bind (leafO 3 osh_fence) = TL_fence l := by kernel_rfl
noncomputable def F_fence : List At → Tr (List At) := TL_fence
theorem s_fence : SpecF Try.prog 16 (.eff (locF ish_fence osh_fence F_fence)) :=
  spec_loc (sy := y_fence) (fuel := 100) (Lp := Lp_fence_7) o_next mixed ⟨Try.func16, by kernel_rfl, by kernel_rfl⟩ ish_fence osh_fence lk_fence_7 (hT_ways e_fence)
noncomputable def Γ_fence : Specs := upd Γ_next 16 (.eff (locF ish_fence osh_fence F_fence))
theorem o_fence : SpecOK Try.prog Γ_fence := SpecOK.upd o_next s_fence

end Go.Proofs.Ythgagehgiooklaa.G
end
