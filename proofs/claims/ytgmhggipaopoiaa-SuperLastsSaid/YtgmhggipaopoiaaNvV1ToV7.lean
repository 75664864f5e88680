/-
  What a memory's calls make of each line, in plain words.
-/
import Derived.Test.YtgmhggipaopoiaaNvG4ToNvR1
import Derived.KernelRfl
import Derived.Test.YtgmhggipaopoiaaG1ToNvO7
import Derived.Test.YtgmhggipaopoiaaCrc1ToCrc2
section
namespace Go.Proofs.Ytgmhggipaopoiaa.G
open Go Go.AM Go.Proofs

/-! ### which of so many kinds -/

theorem kind_in {x n : Int} (h1 : -9223372036854775808 ≤ x) (h2 : x ≤ 9223372036854775807) (hn : 0 < n) (hn2 : n ≤ 9223372036854775807) : ok_kind x n = true ∧ 0 ≤ r_kind_0 x n ∧ r_kind_0 x n < n := by
  have key : ∀ v : Int, 0 ≤ v → 0 ≤ Int.tmod v n ∧ Int.tmod v n < n := fun v hv => by
    rw [Int.tmod_eq_emod_of_nonneg hv]
    exact ⟨Int.emod_nonneg _ (by omega), Int.emod_lt_of_pos _ hn⟩
  have hne : (n != 0) = true := by simp; omega
  by_cases hx : x < 0
  · have e1 : IntKind.i64.wrap (x + 1) = x + 1 := wrap_i64 (by omega) (by omega)
    have e2 : IntKind.i64.wrap (0 - (x + 1)) = 0 - (x + 1) := wrap_i64 (by omega) (by omega)
    have hd : decide (x < 0) = true := decide_eq_true hx
    unfold ok_kind r_kind_0
    simp only [hd, e1, e2, hne, cond_true]
    exact ⟨by simp, key _ (by omega)⟩
  · have hd : decide (x < 0) = false := decide_eq_false hx
    unfold ok_kind r_kind_0
    simp only [hd, hne, cond_false, cond_true]
    exact ⟨by simp, key _ (by omega)⟩

/-! ### a memory that is on and does not burn -/

def Mem.on (m : Mem) : Prop := m.off = false ∧ m.burns = false
theorem newM_on (n : Nat) : (newM n).on := ⟨rfl, rfl⟩

theorem on_po {m : Mem} (h : m.on) : m.po = false := by unfold Mem.po offB; rw [h.1, h.2]; rfl
theorem on_stp {m : Mem} (h : m.on) : m.stp.on := ⟨on_po h, h.2⟩
theorem on_cod {m : Mem} (h : m.on) : m.cod = 0 := po_cod (on_po h)
theorem bad_of {m : Mem} {i x : Int} (h : 0 ≤ i ∧ i < m.n ∧ 0 ≤ x ∧ x < 8) : m.bad i x = false := by unfold Mem.bad; simp; omega
theorem corB_of {c : Int} (h : 0 ≤ c ∧ c < 8) : corB c = false := by unfold corB; simp; omega
theorem ebad_of {m : Mem} {i x : Int} (h : 0 ≤ i ∧ i < m.n ∧ 0 ≤ x) : m.ebad i x = false := by unfold Mem.ebad; simp; omega

theorem stM_on {m : Mem} {i w v : Int} (h : m.on) (hb : m.bad i w = false) : m.stM i w v = m.stp.wit (updR m.g i.toNat (stR (m.g i.toNat) w.toNat v)) (updR m.h i.toNat (stH (m.h i.toNat) (m.g i.toNat 16).toNat w v)) := by
  unfold Mem.stM; rw [hb, on_po h]; rfl
theorem flM_on {m : Mem} {c i : Int} (h : m.on) (hb : m.bad i c = false) : m.flM c i = m.stp.wit (updR m.g i.toNat (flR (m.g i.toNat) c.toNat)) m.h := by
  unfold Mem.flM; rw [hb, on_po h]; rfl
theorem feM_on {m : Mem} {c : Int} (h : m.on) (hb : corB c = false) : m.feM c = m.stp.wit (feG m.n m.g m.h (17 + c.toNat) 0) (feH m.n m.g m.h (17 + c.toNat) 0) := by
  unfold Mem.feM; rw [hb, on_po h]; rfl
theorem evM_on {m : Mem} {i x : Int} (h : m.on) (hb : m.ebad i x = false) : m.evM i x = m.wit (updR m.g i.toNat (rowS (m.g i.toNat) (m.h i.toNat) (evK (m.g i.toNat) x))) (updR m.h i.toNat (hS (m.h i.toNat) (evK (m.g i.toNat) x))) := by
  unfold Mem.evM; rw [hb, h.1]; rfl
theorem stC_on {m : Mem} {i w : Int} (h : m.on) (hb : m.bad i w = false) : m.stC i w = 0 := by unfold Mem.stC; rw [hb]; exact on_cod h

theorem stM_on' {m : Mem} {i w v : Int} (h : m.on) : (m.stM i w v).on := by
  unfold Mem.stM
  cases m.bad i w with
  | true => exact h
  | false => rw [on_po h]; exact on_stp h
theorem flM_on' {m : Mem} {c i : Int} (h : m.on) : (m.flM c i).on := by
  unfold Mem.flM
  cases m.bad i c with
  | true => exact h
  | false => rw [on_po h]; exact on_stp h
theorem feM_on' {m : Mem} {c : Int} (h : m.on) : (m.feM c).on := by
  unfold Mem.feM
  cases corB c with
  | true => exact h
  | false => rw [on_po h]; exact on_stp h
theorem evM_on' {m : Mem} {i x : Int} (h : m.on) : (m.evM i x).on := by
  unfold Mem.evM
  cases m.ebad i x with
  | true => exact h
  | false => rw [h.1]; exact h
theorem crM_on {m : Mem} {q : Nat → Int} {kn : Nat} : (m.crM q kn).on := ⟨rfl, rfl⟩

theorem stM_n {m : Mem} {i w v : Int} : (m.stM i w v).n = m.n := by unfold Mem.stM; cases m.bad i w <;> cases m.po <;> rfl
theorem flM_n {m : Mem} {c i : Int} : (m.flM c i).n = m.n := by unfold Mem.flM; cases m.bad i c <;> cases m.po <;> rfl
theorem feM_n {m : Mem} {c : Int} : (m.feM c).n = m.n := by unfold Mem.feM; cases corB c <;> cases m.po <;> rfl
theorem evM_n {m : Mem} {i x : Int} : (m.evM i x).n = m.n := by unfold Mem.evM; cases m.ebad i x <;> cases m.off <;> rfl

theorem ldW_on {m : Mem} {i : Int} {c : Nat} (h : m.on) (hi : 0 ≤ i ∧ i < m.n) : m.ldW i c = m.g i.toNat c := by
  have e : m.ldC i = 0 := by unfold Mem.ldC; rw [show (decide (i < 0) || decide (i ≥ (m.n : Int))) = false by simp; omega, h.1]; rfl
  unfold Mem.ldW; rw [e]; rfl
theorem ldC_on {m : Mem} {i : Int} (h : m.on) (hi : 0 ≤ i ∧ i < m.n) : m.ldC i = 0 := by
  unfold Mem.ldC; rw [show (decide (i < 0) || decide (i ≥ (m.n : Int))) = false by simp; omega, h.1]; rfl

/-! ### what is now is what is sure, with the stores -/

theorem apF_pt {c : Nat} : ∀ (m a : Nat) (s s' hr hr' : Nat → Int), s c = s' c → (∀ k, a ≤ k → k < a + m → hr (k * 2) = hr' (k * 2) ∧ hr (k * 2 + 1) = hr' (k * 2 + 1)) → apF s hr a m c = apF s' hr' a m c
  | 0, _, _, _, _, _, hs, _ => hs
  | m + 1, a, s, s', hr, hr', hs, h => by
    obtain ⟨h1, h2⟩ := h a (Nat.le_refl _) (by omega)
    rw [apF, apF]
    refine apF_pt m (a + 1) _ _ hr hr' ?_ fun k h3 h4 => h k (by omega) (by omega)
    show (if c = (hr (a * 2)).toNat then hr (a * 2 + 1) else s c) = if c = (hr' (a * 2)).toNat then hr' (a * 2 + 1) else s' c
    rw [h1, h2, hs]

def Coh (r hr : Nat → Int) : Prop := ∀ c, c < 8 → r c = apF (sur r) hr 0 (r 16).toNat c

theorem coh_st {r hr : Nat → Int} {w v : Int} (h : Coh r hr) (h1 : 0 ≤ r 16) (hw : 0 ≤ w ∧ w < 8) : Coh (stR r w.toNat v) (stH hr (r 16).toNat w v) := by
  intro c hc
  have e : stR r w.toNat v 16 = r 16 + 1 := if_pos rfl
  rw [e, show (r 16 + 1).toNat = (r 16).toNat + 1 by omega, apF_succ, Nat.zero_add]
  generalize hn : (r 16).toNat = n
  have a1 : stH hr n w v (n * 2) = w := if_pos rfl
  have a2 : stH hr n w v (n * 2 + 1) = v := by unfold stH; rw [if_neg (by omega), if_pos rfl]
  show stR r w.toNat v c = if c = (stH hr n w v (n * 2)).toNat then stH hr n w v (n * 2 + 1) else apF (sur (stR r w.toNat v)) (stH hr n w v) 0 n c
  rw [a1, a2]
  unfold stR
  rw [if_neg (by omega)]
  by_cases hcw : c = w.toNat
  · rw [if_pos hcw, if_pos hcw]
  · rw [if_neg hcw, if_neg hcw, h c hc, hn]
    refine apF_pt n 0 _ _ _ _ ?_ fun k _ hk => ?_
    · show r (8 + c) = if 8 + c = 16 then r 16 + 1 else if 8 + c = w.toNat then v else r (8 + c)
      rw [if_neg (by omega), if_neg (by omega)]
    · unfold stH
      rw [if_neg (by omega), if_neg (by omega), if_neg (by omega), if_neg (by omega)]
      exact ⟨rfl, rfl⟩

theorem flR_lo {r : Nat → Int} {k c : Nat} (hc : c < 17) : flR r k c = r c := if_neg (by omega)

theorem coh_fl {r hr : Nat → Int} {k : Nat} (h : Coh r hr) : Coh (flR r k) hr := by
  intro c hc
  rw [flR_lo (by omega), flR_lo (by omega), h c hc]
  refine apF_pt _ _ _ _ _ _ ?_ fun _ _ _ => ⟨rfl, rfl⟩
  show r (8 + c) = flR r k (8 + c)
  exact (flR_lo (by omega)).symm

theorem rowS_now {r hr : Nat → Int} {n c : Nat} (hc : c < 8) : rowS r hr n c = r c := by
  unfold rowS
  rw [if_neg (by omega), if_neg (by omega), putS_out _ _ (by omega)]
theorem rowS_sur {r hr : Nat → Int} {n c : Nat} (hc : c < 8) : sur (rowS r hr n) c = apF (sur r) hr 0 n c := by
  unfold sur rowS putS
  rw [if_neg (by omega), if_neg (by omega), if_pos (by omega), show 8 + c - 8 = c by omega]
  rfl

theorem coh_rowS {r hr : Nat → Int} {n : Nat} (h : Coh r hr) (hn : (n : Int) ≤ r 16) : Coh (rowS r hr n) (hS hr n) := by
  intro c hc
  rw [rowS_now hc, rowS16, h c hc]
  generalize hk : (r 16 - n).toNat = k
  rw [show (r 16).toNat = n + k by omega, apF_add]
  rw [apF_pt (s := sur (rowS r hr n)) (s' := apF (sur r) hr 0 n) (hr := hS hr n) (hr' := hS hr n) k 0 (rowS_sur hc) (fun _ _ _ => ⟨rfl, rfl⟩)]
  show _ = apF (apF (sur r) hr 0 n) (fun k => hr (k + 2 * n)) 0 k c
  rw [apF_shift]

theorem crR_16 {r hr : Nat → Int} {k : Nat} : crR r hr k 16 = 0 := rfl
theorem crR_now {r hr : Nat → Int} {k c : Nat} (hc : c < 8) : crR r hr k c = apF (sur r) hr 0 k c := if_pos hc
theorem crR_sur {r hr : Nat → Int} {k c : Nat} (hc : c < 8) : sur (crR r hr k) c = apF (sur r) hr 0 k c := by
  unfold sur crR
  rw [if_neg (by omega), if_pos (by omega), show 8 + c - 8 = c by omega]
  rfl
theorem coh_crR {r hr : Nat → Int} {k : Nat} : Coh (crR r hr k) hr := fun c hc => by
  rw [crR_16, crR_now hc]; exact (crR_sur hc).symm

/-- All lines are so. -/
def Mem.Coh (m : Mem) : Prop := ∀ i, i < m.n → G.Coh (m.g i) (m.h i)

end Go.Proofs.Ytgmhggipaopoiaa.G
end

/-
  What functions of the seat compute, printed by a program from the explorer.
-/
section
namespace Go.Proofs.Ytgmhggipaopoiaa.G
open Go Go.AM Go.Proofs
/-! ### sFind -/

noncomputable def ish_sFind : FSh := ⟨[.v false [.p 0 0]], [.roc [.sw 1 25, .k .b, .k .b, .k (.n .i64), .k (.n .i64)], .nrows [.n .u64, .n .u64, .n .u64, .n .u64, .n .u64, .n .u64, .n .u64, .n .u64, .n .u64, .n .u64, .n .u64, .n .u64, .n .u64, .n .u64, .n .u64, .n .u64, .n .i64, .n .i64, .n .i64, .n .i64, .n .i64, .n .i64, .n .i64, .n .i64, .n .i64] 16 [.n .i64, .n .u64] 2 false false, .no]⟩
noncomputable def osh_sFind : FSh := ⟨[.tup [(true, [.k (.n .i64), .k (.n .i64), .k (.n .i64), .k (.n .i64)]), (false, [.k (.n .i64)]), (false, [.k (.n .i64)])]], [.no, .no, .no]⟩
noncomputable def sFind_c0 (x0 : Bool) (x1 : Bool) (x2 : Int) (x3 : Int) (n4 : Nat) (g4 : Nat → Nat → Int) (h4 : Nat → Nat → Int) : Int := Go.Proofs.Ytgmhggipaopoiaa.G.r_sBest_0 (Go.Proofs.Ytgmhggipaopoiaa.G.Mem.ldW { n := n4, g := g4, h := h4, off := x0, burns := x1, left := x2, steps := x3 } (0 : Int) (0 : Nat)) (Go.Proofs.Ytgmhggipaopoiaa.G.Mem.ldW { n := n4, g := g4, h := h4, off := x0, burns := x1, left := x2, steps := x3 } (0 : Int) (1 : Nat)) (Go.Proofs.Ytgmhggipaopoiaa.G.Mem.ldW { n := n4, g := g4, h := h4, off := x0, burns := x1, left := x2, steps := x3 } (0 : Int) (2 : Nat)) (Go.Proofs.Ytgmhggipaopoiaa.G.Mem.ldW { n := n4, g := g4, h := h4, off := x0, burns := x1, left := x2, steps := x3 } (0 : Int) (3 : Nat)) (Go.Proofs.Ytgmhggipaopoiaa.G.Mem.ldW { n := n4, g := g4, h := h4, off := x0, burns := x1, left := x2, steps := x3 } (0 : Int) (4 : Nat)) (Go.Proofs.Ytgmhggipaopoiaa.G.Mem.ldW { n := n4, g := g4, h := h4, off := x0, burns := x1, left := x2, steps := x3 } (0 : Int) (5 : Nat)) (Go.Proofs.Ytgmhggipaopoiaa.G.Mem.ldW { n := n4, g := g4, h := h4, off := x0, burns := x1, left := x2, steps := x3 } (0 : Int) (6 : Nat)) (Go.Proofs.Ytgmhggipaopoiaa.G.Mem.ldW { n := n4, g := g4, h := h4, off := x0, burns := x1, left := x2, steps := x3 } (0 : Int) (7 : Nat)) (Go.Proofs.Ytgmhggipaopoiaa.G.Mem.ldW { n := n4, g := g4, h := h4, off := x0, burns := x1, left := x2, steps := x3 } (1 : Int) (0 : Nat)) (Go.Proofs.Ytgmhggipaopoiaa.G.Mem.ldW { n := n4, g := g4, h := h4, off := x0, burns := x1, left := x2, steps := x3 } (1 : Int) (1 : Nat)) (Go.Proofs.Ytgmhggipaopoiaa.G.Mem.ldW { n := n4, g := g4, h := h4, off := x0, burns := x1, left := x2, steps := x3 } (1 : Int) (2 : Nat)) (Go.Proofs.Ytgmhggipaopoiaa.G.Mem.ldW { n := n4, g := g4, h := h4, off := x0, burns := x1, left := x2, steps := x3 } (1 : Int) (3 : Nat)) (Go.Proofs.Ytgmhggipaopoiaa.G.Mem.ldW { n := n4, g := g4, h := h4, off := x0, burns := x1, left := x2, steps := x3 } (1 : Int) (4 : Nat)) (Go.Proofs.Ytgmhggipaopoiaa.G.Mem.ldW { n := n4, g := g4, h := h4, off := x0, burns := x1, left := x2, steps := x3 } (1 : Int) (5 : Nat)) (Go.Proofs.Ytgmhggipaopoiaa.G.Mem.ldW { n := n4, g := g4, h := h4, off := x0, burns := x1, left := x2, steps := x3 } (1 : Int) (6 : Nat)) (Go.Proofs.Ytgmhggipaopoiaa.G.Mem.ldW { n := n4, g := g4, h := h4, off := x0, burns := x1, left := x2, steps := x3 } (1 : Int) (7 : Nat))
noncomputable def sFind_c1 (x0 : Bool) (x1 : Bool) (x2 : Int) (x3 : Int) (n4 : Nat) (g4 : Nat → Nat → Int) (h4 : Nat → Nat → Int) : Int := Go.Proofs.Ytgmhggipaopoiaa.G.r_sBest_1 (Go.Proofs.Ytgmhggipaopoiaa.G.Mem.ldW { n := n4, g := g4, h := h4, off := x0, burns := x1, left := x2, steps := x3 } (0 : Int) (0 : Nat)) (Go.Proofs.Ytgmhggipaopoiaa.G.Mem.ldW { n := n4, g := g4, h := h4, off := x0, burns := x1, left := x2, steps := x3 } (0 : Int) (1 : Nat)) (Go.Proofs.Ytgmhggipaopoiaa.G.Mem.ldW { n := n4, g := g4, h := h4, off := x0, burns := x1, left := x2, steps := x3 } (0 : Int) (2 : Nat)) (Go.Proofs.Ytgmhggipaopoiaa.G.Mem.ldW { n := n4, g := g4, h := h4, off := x0, burns := x1, left := x2, steps := x3 } (0 : Int) (3 : Nat)) (Go.Proofs.Ytgmhggipaopoiaa.G.Mem.ldW { n := n4, g := g4, h := h4, off := x0, burns := x1, left := x2, steps := x3 } (0 : Int) (4 : Nat)) (Go.Proofs.Ytgmhggipaopoiaa.G.Mem.ldW { n := n4, g := g4, h := h4, off := x0, burns := x1, left := x2, steps := x3 } (0 : Int) (5 : Nat)) (Go.Proofs.Ytgmhggipaopoiaa.G.Mem.ldW { n := n4, g := g4, h := h4, off := x0, burns := x1, left := x2, steps := x3 } (0 : Int) (6 : Nat)) (Go.Proofs.Ytgmhggipaopoiaa.G.Mem.ldW { n := n4, g := g4, h := h4, off := x0, burns := x1, left := x2, steps := x3 } (0 : Int) (7 : Nat)) (Go.Proofs.Ytgmhggipaopoiaa.G.Mem.ldW { n := n4, g := g4, h := h4, off := x0, burns := x1, left := x2, steps := x3 } (1 : Int) (0 : Nat)) (Go.Proofs.Ytgmhggipaopoiaa.G.Mem.ldW { n := n4, g := g4, h := h4, off := x0, burns := x1, left := x2, steps := x3 } (1 : Int) (1 : Nat)) (Go.Proofs.Ytgmhggipaopoiaa.G.Mem.ldW { n := n4, g := g4, h := h4, off := x0, burns := x1, left := x2, steps := x3 } (1 : Int) (2 : Nat)) (Go.Proofs.Ytgmhggipaopoiaa.G.Mem.ldW { n := n4, g := g4, h := h4, off := x0, burns := x1, left := x2, steps := x3 } (1 : Int) (3 : Nat)) (Go.Proofs.Ytgmhggipaopoiaa.G.Mem.ldW { n := n4, g := g4, h := h4, off := x0, burns := x1, left := x2, steps := x3 } (1 : Int) (4 : Nat)) (Go.Proofs.Ytgmhggipaopoiaa.G.Mem.ldW { n := n4, g := g4, h := h4, off := x0, burns := x1, left := x2, steps := x3 } (1 : Int) (5 : Nat)) (Go.Proofs.Ytgmhggipaopoiaa.G.Mem.ldW { n := n4, g := g4, h := h4, off := x0, burns := x1, left := x2, steps := x3 } (1 : Int) (6 : Nat)) (Go.Proofs.Ytgmhggipaopoiaa.G.Mem.ldW { n := n4, g := g4, h := h4, off := x0, burns := x1, left := x2, steps := x3 } (1 : Int) (7 : Nat))
noncomputable def sFind_c2 (x0 : Bool) (x1 : Bool) (x2 : Int) (x3 : Int) (n4 : Nat) (g4 : Nat → Nat → Int) (h4 : Nat → Nat → Int) : Int := Go.Proofs.Ytgmhggipaopoiaa.G.r_sBest_2 (Go.Proofs.Ytgmhggipaopoiaa.G.Mem.ldW { n := n4, g := g4, h := h4, off := x0, burns := x1, left := x2, steps := x3 } (0 : Int) (0 : Nat)) (Go.Proofs.Ytgmhggipaopoiaa.G.Mem.ldW { n := n4, g := g4, h := h4, off := x0, burns := x1, left := x2, steps := x3 } (0 : Int) (1 : Nat)) (Go.Proofs.Ytgmhggipaopoiaa.G.Mem.ldW { n := n4, g := g4, h := h4, off := x0, burns := x1, left := x2, steps := x3 } (0 : Int) (2 : Nat)) (Go.Proofs.Ytgmhggipaopoiaa.G.Mem.ldW { n := n4, g := g4, h := h4, off := x0, burns := x1, left := x2, steps := x3 } (0 : Int) (3 : Nat)) (Go.Proofs.Ytgmhggipaopoiaa.G.Mem.ldW { n := n4, g := g4, h := h4, off := x0, burns := x1, left := x2, steps := x3 } (0 : Int) (4 : Nat)) (Go.Proofs.Ytgmhggipaopoiaa.G.Mem.ldW { n := n4, g := g4, h := h4, off := x0, burns := x1, left := x2, steps := x3 } (0 : Int) (5 : Nat)) (Go.Proofs.Ytgmhggipaopoiaa.G.Mem.ldW { n := n4, g := g4, h := h4, off := x0, burns := x1, left := x2, steps := x3 } (0 : Int) (6 : Nat)) (Go.Proofs.Ytgmhggipaopoiaa.G.Mem.ldW { n := n4, g := g4, h := h4, off := x0, burns := x1, left := x2, steps := x3 } (0 : Int) (7 : Nat)) (Go.Proofs.Ytgmhggipaopoiaa.G.Mem.ldW { n := n4, g := g4, h := h4, off := x0, burns := x1, left := x2, steps := x3 } (1 : Int) (0 : Nat)) (Go.Proofs.Ytgmhggipaopoiaa.G.Mem.ldW { n := n4, g := g4, h := h4, off := x0, burns := x1, left := x2, steps := x3 } (1 : Int) (1 : Nat)) (Go.Proofs.Ytgmhggipaopoiaa.G.Mem.ldW { n := n4, g := g4, h := h4, off := x0, burns := x1, left := x2, steps := x3 } (1 : Int) (2 : Nat)) (Go.Proofs.Ytgmhggipaopoiaa.G.Mem.ldW { n := n4, g := g4, h := h4, off := x0, burns := x1, left := x2, steps := x3 } (1 : Int) (3 : Nat)) (Go.Proofs.Ytgmhggipaopoiaa.G.Mem.ldW { n := n4, g := g4, h := h4, off := x0, burns := x1, left := x2, steps := x3 } (1 : Int) (4 : Nat)) (Go.Proofs.Ytgmhggipaopoiaa.G.Mem.ldW { n := n4, g := g4, h := h4, off := x0, burns := x1, left := x2, steps := x3 } (1 : Int) (5 : Nat)) (Go.Proofs.Ytgmhggipaopoiaa.G.Mem.ldW { n := n4, g := g4, h := h4, off := x0, burns := x1, left := x2, steps := x3 } (1 : Int) (6 : Nat)) (Go.Proofs.Ytgmhggipaopoiaa.G.Mem.ldW { n := n4, g := g4, h := h4, off := x0, burns := x1, left := x2, steps := x3 } (1 : Int) (7 : Nat))
noncomputable def sFind_c3 (x0 : Bool) (x1 : Bool) (x2 : Int) (x3 : Int) (n4 : Nat) (g4 : Nat → Nat → Int) (h4 : Nat → Nat → Int) : Int := Go.Proofs.Ytgmhggipaopoiaa.G.r_sBest_3 (Go.Proofs.Ytgmhggipaopoiaa.G.Mem.ldW { n := n4, g := g4, h := h4, off := x0, burns := x1, left := x2, steps := x3 } (0 : Int) (0 : Nat)) (Go.Proofs.Ytgmhggipaopoiaa.G.Mem.ldW { n := n4, g := g4, h := h4, off := x0, burns := x1, left := x2, steps := x3 } (0 : Int) (1 : Nat)) (Go.Proofs.Ytgmhggipaopoiaa.G.Mem.ldW { n := n4, g := g4, h := h4, off := x0, burns := x1, left := x2, steps := x3 } (0 : Int) (2 : Nat)) (Go.Proofs.Ytgmhggipaopoiaa.G.Mem.ldW { n := n4, g := g4, h := h4, off := x0, burns := x1, left := x2, steps := x3 } (0 : Int) (3 : Nat)) (Go.Proofs.Ytgmhggipaopoiaa.G.Mem.ldW { n := n4, g := g4, h := h4, off := x0, burns := x1, left := x2, steps := x3 } (0 : Int) (4 : Nat)) (Go.Proofs.Ytgmhggipaopoiaa.G.Mem.ldW { n := n4, g := g4, h := h4, off := x0, burns := x1, left := x2, steps := x3 } (0 : Int) (5 : Nat)) (Go.Proofs.Ytgmhggipaopoiaa.G.Mem.ldW { n := n4, g := g4, h := h4, off := x0, burns := x1, left := x2, steps := x3 } (0 : Int) (6 : Nat)) (Go.Proofs.Ytgmhggipaopoiaa.G.Mem.ldW { n := n4, g := g4, h := h4, off := x0, burns := x1, left := x2, steps := x3 } (0 : Int) (7 : Nat)) (Go.Proofs.Ytgmhggipaopoiaa.G.Mem.ldW { n := n4, g := g4, h := h4, off := x0, burns := x1, left := x2, steps := x3 } (1 : Int) (0 : Nat)) (Go.Proofs.Ytgmhggipaopoiaa.G.Mem.ldW { n := n4, g := g4, h := h4, off := x0, burns := x1, left := x2, steps := x3 } (1 : Int) (1 : Nat)) (Go.Proofs.Ytgmhggipaopoiaa.G.Mem.ldW { n := n4, g := g4, h := h4, off := x0, burns := x1, left := x2, steps := x3 } (1 : Int) (2 : Nat)) (Go.Proofs.Ytgmhggipaopoiaa.G.Mem.ldW { n := n4, g := g4, h := h4, off := x0, burns := x1, left := x2, steps := x3 } (1 : Int) (3 : Nat)) (Go.Proofs.Ytgmhggipaopoiaa.G.Mem.ldW { n := n4, g := g4, h := h4, off := x0, burns := x1, left := x2, steps := x3 } (1 : Int) (4 : Nat)) (Go.Proofs.Ytgmhggipaopoiaa.G.Mem.ldW { n := n4, g := g4, h := h4, off := x0, burns := x1, left := x2, steps := x3 } (1 : Int) (5 : Nat)) (Go.Proofs.Ytgmhggipaopoiaa.G.Mem.ldW { n := n4, g := g4, h := h4, off := x0, burns := x1, left := x2, steps := x3 } (1 : Int) (6 : Nat)) (Go.Proofs.Ytgmhggipaopoiaa.G.Mem.ldW { n := n4, g := g4, h := h4, off := x0, burns := x1, left := x2, steps := x3 } (1 : Int) (7 : Nat))
noncomputable def sFind_c4 (x0 : Bool) (x1 : Bool) (x2 : Int) (x3 : Int) (n4 : Nat) (g4 : Nat → Nat → Int) (h4 : Nat → Nat → Int) : Int := Go.Proofs.Ytgmhggipaopoiaa.G.r_sBest_4 (Go.Proofs.Ytgmhggipaopoiaa.G.Mem.ldW { n := n4, g := g4, h := h4, off := x0, burns := x1, left := x2, steps := x3 } (0 : Int) (0 : Nat)) (Go.Proofs.Ytgmhggipaopoiaa.G.Mem.ldW { n := n4, g := g4, h := h4, off := x0, burns := x1, left := x2, steps := x3 } (0 : Int) (1 : Nat)) (Go.Proofs.Ytgmhggipaopoiaa.G.Mem.ldW { n := n4, g := g4, h := h4, off := x0, burns := x1, left := x2, steps := x3 } (0 : Int) (2 : Nat)) (Go.Proofs.Ytgmhggipaopoiaa.G.Mem.ldW { n := n4, g := g4, h := h4, off := x0, burns := x1, left := x2, steps := x3 } (0 : Int) (3 : Nat)) (Go.Proofs.Ytgmhggipaopoiaa.G.Mem.ldW { n := n4, g := g4, h := h4, off := x0, burns := x1, left := x2, steps := x3 } (0 : Int) (4 : Nat)) (Go.Proofs.Ytgmhggipaopoiaa.G.Mem.ldW { n := n4, g := g4, h := h4, off := x0, burns := x1, left := x2, steps := x3 } (0 : Int) (5 : Nat)) (Go.Proofs.Ytgmhggipaopoiaa.G.Mem.ldW { n := n4, g := g4, h := h4, off := x0, burns := x1, left := x2, steps := x3 } (0 : Int) (6 : Nat)) (Go.Proofs.Ytgmhggipaopoiaa.G.Mem.ldW { n := n4, g := g4, h := h4, off := x0, burns := x1, left := x2, steps := x3 } (0 : Int) (7 : Nat)) (Go.Proofs.Ytgmhggipaopoiaa.G.Mem.ldW { n := n4, g := g4, h := h4, off := x0, burns := x1, left := x2, steps := x3 } (1 : Int) (0 : Nat)) (Go.Proofs.Ytgmhggipaopoiaa.G.Mem.ldW { n := n4, g := g4, h := h4, off := x0, burns := x1, left := x2, steps := x3 } (1 : Int) (1 : Nat)) (Go.Proofs.Ytgmhggipaopoiaa.G.Mem.ldW { n := n4, g := g4, h := h4, off := x0, burns := x1, left := x2, steps := x3 } (1 : Int) (2 : Nat)) (Go.Proofs.Ytgmhggipaopoiaa.G.Mem.ldW { n := n4, g := g4, h := h4, off := x0, burns := x1, left := x2, steps := x3 } (1 : Int) (3 : Nat)) (Go.Proofs.Ytgmhggipaopoiaa.G.Mem.ldW { n := n4, g := g4, h := h4, off := x0, burns := x1, left := x2, steps := x3 } (1 : Int) (4 : Nat)) (Go.Proofs.Ytgmhggipaopoiaa.G.Mem.ldW { n := n4, g := g4, h := h4, off := x0, burns := x1, left := x2, steps := x3 } (1 : Int) (5 : Nat)) (Go.Proofs.Ytgmhggipaopoiaa.G.Mem.ldW { n := n4, g := g4, h := h4, off := x0, burns := x1, left := x2, steps := x3 } (1 : Int) (6 : Nat)) (Go.Proofs.Ytgmhggipaopoiaa.G.Mem.ldW { n := n4, g := g4, h := h4, off := x0, burns := x1, left := x2, steps := x3 } (1 : Int) (7 : Nat))
noncomputable def sFind_c5 (x0 : Bool) (x1 : Bool) (x2 : Int) (x3 : Int) (n4 : Nat) (g4 : Nat → Nat → Int) (h4 : Nat → Nat → Int) : Bool := Go.Proofs.Ytgmhggipaopoiaa.G.r_sBest_5 (Go.Proofs.Ytgmhggipaopoiaa.G.Mem.ldW { n := n4, g := g4, h := h4, off := x0, burns := x1, left := x2, steps := x3 } (0 : Int) (0 : Nat)) (Go.Proofs.Ytgmhggipaopoiaa.G.Mem.ldW { n := n4, g := g4, h := h4, off := x0, burns := x1, left := x2, steps := x3 } (0 : Int) (1 : Nat)) (Go.Proofs.Ytgmhggipaopoiaa.G.Mem.ldW { n := n4, g := g4, h := h4, off := x0, burns := x1, left := x2, steps := x3 } (0 : Int) (2 : Nat)) (Go.Proofs.Ytgmhggipaopoiaa.G.Mem.ldW { n := n4, g := g4, h := h4, off := x0, burns := x1, left := x2, steps := x3 } (0 : Int) (3 : Nat)) (Go.Proofs.Ytgmhggipaopoiaa.G.Mem.ldW { n := n4, g := g4, h := h4, off := x0, burns := x1, left := x2, steps := x3 } (0 : Int) (4 : Nat)) (Go.Proofs.Ytgmhggipaopoiaa.G.Mem.ldW { n := n4, g := g4, h := h4, off := x0, burns := x1, left := x2, steps := x3 } (0 : Int) (5 : Nat)) (Go.Proofs.Ytgmhggipaopoiaa.G.Mem.ldW { n := n4, g := g4, h := h4, off := x0, burns := x1, left := x2, steps := x3 } (0 : Int) (6 : Nat)) (Go.Proofs.Ytgmhggipaopoiaa.G.Mem.ldW { n := n4, g := g4, h := h4, off := x0, burns := x1, left := x2, steps := x3 } (0 : Int) (7 : Nat)) (Go.Proofs.Ytgmhggipaopoiaa.G.Mem.ldW { n := n4, g := g4, h := h4, off := x0, burns := x1, left := x2, steps := x3 } (1 : Int) (0 : Nat)) (Go.Proofs.Ytgmhggipaopoiaa.G.Mem.ldW { n := n4, g := g4, h := h4, off := x0, burns := x1, left := x2, steps := x3 } (1 : Int) (1 : Nat)) (Go.Proofs.Ytgmhggipaopoiaa.G.Mem.ldW { n := n4, g := g4, h := h4, off := x0, burns := x1, left := x2, steps := x3 } (1 : Int) (2 : Nat)) (Go.Proofs.Ytgmhggipaopoiaa.G.Mem.ldW { n := n4, g := g4, h := h4, off := x0, burns := x1, left := x2, steps := x3 } (1 : Int) (3 : Nat)) (Go.Proofs.Ytgmhggipaopoiaa.G.Mem.ldW { n := n4, g := g4, h := h4, off := x0, burns := x1, left := x2, steps := x3 } (1 : Int) (4 : Nat)) (Go.Proofs.Ytgmhggipaopoiaa.G.Mem.ldW { n := n4, g := g4, h := h4, off := x0, burns := x1, left := x2, steps := x3 } (1 : Int) (5 : Nat)) (Go.Proofs.Ytgmhggipaopoiaa.G.Mem.ldW { n := n4, g := g4, h := h4, off := x0, burns := x1, left := x2, steps := x3 } (1 : Int) (6 : Nat)) (Go.Proofs.Ytgmhggipaopoiaa.G.Mem.ldW { n := n4, g := g4, h := h4, off := x0, burns := x1, left := x2, steps := x3 } (1 : Int) (7 : Nat))
noncomputable def sFind_c6 (x0 : Bool) (x1 : Bool) (x2 : Int) (x3 : Int) (n4 : Nat) (g4 : Nat → Nat → Int) (h4 : Nat → Nat → Int) : Bool := !(sFind_c5 x0 x1 x2 x3 n4 g4 h4)
noncomputable def sFind_c7 (x0 : Bool) (x1 : Bool) (x2 : Int) (x3 : Int) (n4 : Nat) (g4 : Nat → Nat → Int) (h4 : Nat → Nat → Int) : Bool := Go.Proofs.Ytgmhggipaopoiaa.G.ok_sBest (Go.Proofs.Ytgmhggipaopoiaa.G.Mem.ldW { n := n4, g := g4, h := h4, off := x0, burns := x1, left := x2, steps := x3 } (0 : Int) (0 : Nat)) (Go.Proofs.Ytgmhggipaopoiaa.G.Mem.ldW { n := n4, g := g4, h := h4, off := x0, burns := x1, left := x2, steps := x3 } (0 : Int) (1 : Nat)) (Go.Proofs.Ytgmhggipaopoiaa.G.Mem.ldW { n := n4, g := g4, h := h4, off := x0, burns := x1, left := x2, steps := x3 } (0 : Int) (2 : Nat)) (Go.Proofs.Ytgmhggipaopoiaa.G.Mem.ldW { n := n4, g := g4, h := h4, off := x0, burns := x1, left := x2, steps := x3 } (0 : Int) (3 : Nat)) (Go.Proofs.Ytgmhggipaopoiaa.G.Mem.ldW { n := n4, g := g4, h := h4, off := x0, burns := x1, left := x2, steps := x3 } (0 : Int) (4 : Nat)) (Go.Proofs.Ytgmhggipaopoiaa.G.Mem.ldW { n := n4, g := g4, h := h4, off := x0, burns := x1, left := x2, steps := x3 } (0 : Int) (5 : Nat)) (Go.Proofs.Ytgmhggipaopoiaa.G.Mem.ldW { n := n4, g := g4, h := h4, off := x0, burns := x1, left := x2, steps := x3 } (0 : Int) (6 : Nat)) (Go.Proofs.Ytgmhggipaopoiaa.G.Mem.ldW { n := n4, g := g4, h := h4, off := x0, burns := x1, left := x2, steps := x3 } (0 : Int) (7 : Nat)) (Go.Proofs.Ytgmhggipaopoiaa.G.Mem.ldW { n := n4, g := g4, h := h4, off := x0, burns := x1, left := x2, steps := x3 } (1 : Int) (0 : Nat)) (Go.Proofs.Ytgmhggipaopoiaa.G.Mem.ldW { n := n4, g := g4, h := h4, off := x0, burns := x1, left := x2, steps := x3 } (1 : Int) (1 : Nat)) (Go.Proofs.Ytgmhggipaopoiaa.G.Mem.ldW { n := n4, g := g4, h := h4, off := x0, burns := x1, left := x2, steps := x3 } (1 : Int) (2 : Nat)) (Go.Proofs.Ytgmhggipaopoiaa.G.Mem.ldW { n := n4, g := g4, h := h4, off := x0, burns := x1, left := x2, steps := x3 } (1 : Int) (3 : Nat)) (Go.Proofs.Ytgmhggipaopoiaa.G.Mem.ldW { n := n4, g := g4, h := h4, off := x0, burns := x1, left := x2, steps := x3 } (1 : Int) (4 : Nat)) (Go.Proofs.Ytgmhggipaopoiaa.G.Mem.ldW { n := n4, g := g4, h := h4, off := x0, burns := x1, left := x2, steps := x3 } (1 : Int) (5 : Nat)) (Go.Proofs.Ytgmhggipaopoiaa.G.Mem.ldW { n := n4, g := g4, h := h4, off := x0, burns := x1, left := x2, steps := x3 } (1 : Int) (6 : Nat)) (Go.Proofs.Ytgmhggipaopoiaa.G.Mem.ldW { n := n4, g := g4, h := h4, off := x0, burns := x1, left := x2, steps := x3 } (1 : Int) (7 : Nat))
noncomputable def T_sFind (x0 : Bool) (x1 : Bool) (x2 : Int) (x3 : Int) (n4 : Nat) (g4 : Nat → Nat → Int) (h4 : Nat → Nat → Int) : Tr (List At) :=
 .br 14 (Go.Proofs.Ytgmhggipaopoiaa.G.Mem.ldC { n := n4, g := g4, h := h4, off := x0, burns := x1, left := x2, steps := x3 } (0 : Int) != (0 : Int))
 (.ok [(.i ((0 : Int))), (.i ((0 : Int))), (.i ((0 : Int))), (.i ((0 : Int))), (.i ((0 : Int))), (.i (Go.Proofs.Ytgmhggipaopoiaa.G.Mem.ldC { n := n4, g := g4, h := h4, off := x0, burns := x1, left := x2, steps := x3 } (0 : Int)))])
 (.br 23 (Go.Proofs.Ytgmhggipaopoiaa.G.Mem.ldC { n := n4, g := g4, h := h4, off := x0, burns := x1, left := x2, steps := x3 } (1 : Int) != (0 : Int))
 (.ok [(.i ((0 : Int))), (.i ((0 : Int))), (.i ((0 : Int))), (.i ((0 : Int))), (.i ((0 : Int))), (.i (Go.Proofs.Ytgmhggipaopoiaa.G.Mem.ldC { n := n4, g := g4, h := h4, off := x0, burns := x1, left := x2, steps := x3 } (1 : Int)))])
 (.br 0 ((sFind_c7 x0 x1 x2 x3 n4 g4 h4))
 (.br 34 ((sFind_c6 x0 x1 x2 x3 n4 g4 h4))
 (.ok [(.i ((0 : Int))), (.i ((0 : Int))), (.i ((0 : Int))), (.i ((0 : Int))), (.i ((0 : Int))), (.i ((20 : Int)))])
 (.ok [(.i ((sFind_c0 x0 x1 x2 x3 n4 g4 h4))), (.i ((sFind_c1 x0 x1 x2 x3 n4 g4 h4))), (.i ((sFind_c2 x0 x1 x2 x3 n4 g4 h4))), (.i ((sFind_c3 x0 x1 x2 x3 n4 g4 h4))), (.i ((sFind_c4 x0 x1 x2 x3 n4 g4 h4))), (.i ((0 : Int)))]))
 (.no)))
noncomputable def y_sFind : Nat → Option Nat := (syOf3 [14, 23, 34] [] [])
noncomputable def TL_sFind (l : List At) : Tr (List At) := T_sFind (aB l 0) (aB l 1) (aI l 2) (aI l 3) (aRn l 4) (aRg l 4) (aMh l 4 16 2)
theorem e_sFind (l : List At) : (call Try.prog Γ_R1 y_sFind noLoops 100 Try.f23 (mkV ish_sFind l) (mkH ish_sFind l)).bind (leafO 3 osh_sFind) = TL_sFind l := by kernel_rfl
noncomputable def F_sFind : List At → Tr (List At) := TL_sFind
theorem s_sFind : SpecF Try.prog 23 (.read (locR ish_sFind osh_sFind F_sFind)) :=
  spec_read (sy := y_sFind) (fuel := 100) (Lp := noLoops) o_R1 mixed ⟨Try.func23, by kernel_rfl, by kernel_rfl⟩ ish_sFind osh_sFind (by kernel_rfl) (noLoops_ok _) (hT_ways e_sFind)
noncomputable def Γ_sFind : Specs := upd Γ_R1 23 (.read (locR ish_sFind osh_sFind F_sFind))
theorem o_sFind : SpecOK Try.prog Γ_sFind := SpecOK.upd o_R1 s_sFind

/-! ### the loop at 8 of sWrite -/

noncomputable def lsh_sWrite_8 : FSh := ⟨[.v false [.p 0 0], .v false [.k (.n .i64)], .v false [.k (.n .i64)], .any, .any, .any, .any, .any, .any, .any, .any, .any, .any, .any, .any, .any, .any, .any, .any, .any, .any, .any, .any, .any, .any, .any, .any, .any, .any, .any, .any, .any, .any, .any, .any, .any, .any, .v true [.k (.n .u64), .k (.n .u64), .k (.n .u64), .k (.n .u64), .k (.n .u64), .k (.n .u64), .k (.n .u64), .k (.n .u64)], .v false [.k (.n .i64)], .any, .any, .any, .any, .any, .any, .any, .any, .any, .any, .any, .any, .any, .any, .any, .any, .any, .any, .any, .any, .any, .any], [.cells [.sw 1 25, .k .b, .k .b, .k (.n .i64), .k (.n .i64)], .nrows [.n .u64, .n .u64, .n .u64, .n .u64, .n .u64, .n .u64, .n .u64, .n .u64, .n .u64, .n .u64, .n .u64, .n .u64, .n .u64, .n .u64, .n .u64, .n .u64, .n .i64, .n .i64, .n .i64, .n .i64, .n .i64, .n .i64, .n .i64, .n .i64, .n .i64] 16 [.n .i64, .n .u64] 3 false true, .no, .no]⟩
noncomputable def xsh_sWrite_8_0 : FSh := ⟨[.v false [.p 0 0], .v false [.k (.n .i64)], .v false [.k (.n .i64)], .any, .any, .any, .any, .any, .any, .any, .any, .any, .any, .any, .any, .any, .any, .any, .any, .any, .any, .any, .any, .any, .any, .any, .any, .any, .any, .any, .any, .any, .any, .any, .any, .any, .any, .any, .any, .any, .any, .any, .any, .any, .any, .any, .any, .any, .any, .any, .any, .any, .any, .any, .any, .any, .any, .any, .any, .any, .any], [.cells [.sw 1 25, .k .b, .k .b, .k (.n .i64), .k (.n .i64)], .nrows [.n .u64, .n .u64, .n .u64, .n .u64, .n .u64, .n .u64, .n .u64, .n .u64, .n .u64, .n .u64, .n .u64, .n .u64, .n .u64, .n .u64, .n .u64, .n .u64, .n .i64, .n .i64, .n .i64, .n .i64, .n .i64, .n .i64, .n .i64, .n .i64, .n .i64] 16 [.n .i64, .n .u64] 3 false true, .no, .no]⟩
noncomputable def xsh_sWrite_8_1 : FSh := ⟨[.any, .any, .any, .any, .any, .any, .any, .any, .v false [.k (.n .i64)], .any, .any, .any, .any, .any, .any, .any, .any, .any, .any, .any, .any, .any, .any, .any, .any, .any, .any, .any, .any, .any, .any, .any, .any, .any, .any, .any, .any, .any, .any, .any, .any, .any, .any, .any, .any, .any, .any, .any, .any, .any, .any, .any, .any, .any, .any, .any, .any, .any, .any, .any, .any], [.cells [.sw 1 25, .k .b, .k .b, .k (.n .i64), .k (.n .i64)], .nrows [.n .u64, .n .u64, .n .u64, .n .u64, .n .u64, .n .u64, .n .u64, .n .u64, .n .u64, .n .u64, .n .u64, .n .u64, .n .u64, .n .u64, .n .u64, .n .u64, .n .i64, .n .i64, .n .i64, .n .i64, .n .i64, .n .i64, .n .i64, .n .i64, .n .i64] 16 [.n .i64, .n .u64] 3 false true, .no, .no]⟩
noncomputable def xs_sWrite_8 : Exs := fun e => match e with
  | .normal => some lsh_sWrite_8
  | .exit n => (match Nat.beq n 0 with | true => some xsh_sWrite_8_0 | false => none)
  | .ret => some xsh_sWrite_8_1
noncomputable def B_sWrite_8 (x0 : Int) (x1 : Int) (x2 : Int) (x3 : Int) (x4 : Int) (x5 : Int) (x6 : Int) (x7 : Int) (x8 : Int) (x9 : Int) (x10 : Int) (x11 : Bool) (x12 : Bool) (x13 : Int) (x14 : Int) (n15 : Nat) (g15 : Nat → Nat → Int) (h15 : Nat → Nat → Int) : Tr (Ex × List At) :=
 .br 39 (Decidable.decide (x10 < (8 : Int)))
 (.br 200041 (Go.AM.within x10 (8 : Nat))
 (.br 0 (Go.Proofs.Ytgmhggipaopoiaa.G.pdec (Go.Proofs.Ytgmhggipaopoiaa.G.Mem.Ok (900000 : Int) { n := n15, g := g15, h := h15, off := x11, burns := x12, left := x13, steps := x14 }))
 (.br 48 (Go.Proofs.Ytgmhggipaopoiaa.G.Mem.stC { n := n15, g := g15, h := h15, off := x11, burns := x12, left := x13, steps := x14 } x1 x10 != (0 : Int))
 (.ok (.ret, [(.i (Go.Proofs.Ytgmhggipaopoiaa.G.Mem.stC { n := n15, g := g15, h := h15, off := x11, burns := x12, left := x13, steps := x14 } x1 x10)), (.b ((Go.Proofs.Ytgmhggipaopoiaa.G.Mem.stM { n := n15, g := g15, h := h15, off := x11, burns := x12, left := x13, steps := x14 } x1 x10 (List.getD [x2, x3, x4, x5, x6, x7, x8, x9] (Int.toNat x10) (0 : Int))).off)), (.b ((Go.Proofs.Ytgmhggipaopoiaa.G.Mem.stM { n := n15, g := g15, h := h15, off := x11, burns := x12, left := x13, steps := x14 } x1 x10 (List.getD [x2, x3, x4, x5, x6, x7, x8, x9] (Int.toNat x10) (0 : Int))).burns)), (.i ((Go.Proofs.Ytgmhggipaopoiaa.G.Mem.stM { n := n15, g := g15, h := h15, off := x11, burns := x12, left := x13, steps := x14 } x1 x10 (List.getD [x2, x3, x4, x5, x6, x7, x8, x9] (Int.toNat x10) (0 : Int))).left)), (.i ((Go.Proofs.Ytgmhggipaopoiaa.G.Mem.stM { n := n15, g := g15, h := h15, off := x11, burns := x12, left := x13, steps := x14 } x1 x10 (List.getD [x2, x3, x4, x5, x6, x7, x8, x9] (Int.toNat x10) (0 : Int))).steps)), (.q ((Go.Proofs.Ytgmhggipaopoiaa.G.Mem.stM { n := n15, g := g15, h := h15, off := x11, burns := x12, left := x13, steps := x14 } x1 x10 (List.getD [x2, x3, x4, x5, x6, x7, x8, x9] (Int.toNat x10) (0 : Int))).n) ((Go.Proofs.Ytgmhggipaopoiaa.G.Mem.stM { n := n15, g := g15, h := h15, off := x11, burns := x12, left := x13, steps := x14 } x1 x10 (List.getD [x2, x3, x4, x5, x6, x7, x8, x9] (Int.toNat x10) (0 : Int))).g) ((16 : Nat)) ((2 : Nat)) ((Go.Proofs.Ytgmhggipaopoiaa.G.Mem.stM { n := n15, g := g15, h := h15, off := x11, burns := x12, left := x13, steps := x14 } x1 x10 (List.getD [x2, x3, x4, x5, x6, x7, x8, x9] (Int.toNat x10) (0 : Int))).h))]))
 (.ok (.normal, [(.i (x0)), (.i (x1)), (.i (x2)), (.i (x3)), (.i (x4)), (.i (x5)), (.i (x6)), (.i (x7)), (.i (x8)), (.i (x9)), (.i (Go.IntKind.wrap Go.IntKind.i64 (x10 + (1 : Int)))), (.b ((Go.Proofs.Ytgmhggipaopoiaa.G.Mem.stM { n := n15, g := g15, h := h15, off := x11, burns := x12, left := x13, steps := x14 } x1 x10 (List.getD [x2, x3, x4, x5, x6, x7, x8, x9] (Int.toNat x10) (0 : Int))).off)), (.b ((Go.Proofs.Ytgmhggipaopoiaa.G.Mem.stM { n := n15, g := g15, h := h15, off := x11, burns := x12, left := x13, steps := x14 } x1 x10 (List.getD [x2, x3, x4, x5, x6, x7, x8, x9] (Int.toNat x10) (0 : Int))).burns)), (.i ((Go.Proofs.Ytgmhggipaopoiaa.G.Mem.stM { n := n15, g := g15, h := h15, off := x11, burns := x12, left := x13, steps := x14 } x1 x10 (List.getD [x2, x3, x4, x5, x6, x7, x8, x9] (Int.toNat x10) (0 : Int))).left)), (.i ((Go.Proofs.Ytgmhggipaopoiaa.G.Mem.stM { n := n15, g := g15, h := h15, off := x11, burns := x12, left := x13, steps := x14 } x1 x10 (List.getD [x2, x3, x4, x5, x6, x7, x8, x9] (Int.toNat x10) (0 : Int))).steps)), (.q ((Go.Proofs.Ytgmhggipaopoiaa.G.Mem.stM { n := n15, g := g15, h := h15, off := x11, burns := x12, left := x13, steps := x14 } x1 x10 (List.getD [x2, x3, x4, x5, x6, x7, x8, x9] (Int.toNat x10) (0 : Int))).n) ((Go.Proofs.Ytgmhggipaopoiaa.G.Mem.stM { n := n15, g := g15, h := h15, off := x11, burns := x12, left := x13, steps := x14 } x1 x10 (List.getD [x2, x3, x4, x5, x6, x7, x8, x9] (Int.toNat x10) (0 : Int))).g) ((16 : Nat)) ((2 : Nat)) ((Go.Proofs.Ytgmhggipaopoiaa.G.Mem.stM { n := n15, g := g15, h := h15, off := x11, burns := x12, left := x13, steps := x14 } x1 x10 (List.getD [x2, x3, x4, x5, x6, x7, x8, x9] (Int.toNat x10) (0 : Int))).h))])))
 (.no))
 (.no))
 (.ok (.exit 0, [(.i (x0)), (.i (x1)), (.b (x11)), (.b (x12)), (.i (x13)), (.i (x14)), (.q (n15) (g15) ((16 : Nat)) ((2 : Nat)) (h15))]))
noncomputable def y_sWrite_8 : Nat → Option Nat := (syOf3 [39, 48] [] [41])
noncomputable def BL_sWrite_8 (l : List At) : Tr (Ex × List At) := B_sWrite_8 (aI l 0) (aI l 1) (aI l 2) (aI l 3) (aI l 4) (aI l 5) (aI l 6) (aI l 7) (aI l 8) (aI l 9) (aI l 10) (aB l 11) (aB l 12) (aI l 13) (aI l 14) (aRn l 15) (aRg l 15) (aMh l 15 16 2)
theorem eB_sWrite_8 (l : List At) : (exec Try.prog Γ_sFind y_sWrite_8 noLoops 100 (loopAt Try.f22 8) ⟨mkV lsh_sWrite_8 l, mkH lsh_sWrite_8 l⟩).bind (leafL 3 xs_sWrite_8) = BL_sWrite_8 l := by kernel_rfl
/- by hand: O_sWrite_8 (x0 : Int) (x1 : Int) (x2 : Int) (x3 : Int) (x4 : Int) (x5 : Int) (x6 : Int) (x7 : Int) (x8 : Int) (x9 : Int) (x10 : Int) (x11 : Bool) (x12 : Bool) (x13 : Int) (x14 : Int) (n15 : Nat) (g15 : Nat → Nat → Int) (h15 : Nat → Nat → Int) : Tr (Ex × List At); OL_sWrite_8 (l) := O_sWrite_8 (aI l 0) (aI l 1) (aI l 2) (aI l 3) (aI l 4) (aI l 5) (aI l 6) (aI l 7) (aI l 8) (aI l 9) (aI l 10) (aB l 11) (aB l 12) (aI l 13) (aI l 14) (aRn l 15) (aRg l 15) (aMh l 15 16 2); μ_sWrite_8 : List At → Nat; rd_sWrite_8 : ∀ l r, (OL_sWrite_8 l).val = some r → RoundA BL_sWrite_8 OL_sWrite_8 μ_sWrite_8 l r -/

end Go.Proofs.Ytgmhggipaopoiaa.G
end

/-
  The loop of Write: a line's words, one behind the other.
-/
section
namespace Go.Proofs.Ytgmhggipaopoiaa.G
open Go Go.AM Go.Proofs

/-- 'k' words from the 'i'-th on are stored, as long as the power is on; and the last code. -/
def stL (w : Nat → Int) (s : Int) : (k i : Nat) → Mem → Mem × Int
  | 0, _, M => (M, 0)
  | k + 1, i, M => if M.stC s (i : Int) = 0 then stL w s k (i + 1) (M.stM s (i : Int) (w i)) else (M.stM s (i : Int) (w i), M.stC s (i : Int))

def T_stL (x0 x1 : Int) (p : Mem × Int) : Tr (Ex × List At) := .br 0 (p.2 != 0) (.ok (.ret, .i p.2 :: p.1.ats)) (.ok (.exit 0, .i x0 :: .i x1 :: p.1.ats))

def preW (x10 : Int) (m : Mem) : Prop := 0 ≤ x10 ∧ x10 ≤ 8 ∧ m.Ok (890000 + x10)

noncomputable def O_sWrite_8 (x0 x1 x10 : Int) (w : Nat → Int) (m : Mem) : Tr (Ex × List At) :=
  .br 0 (pdec (preW x10 m)) (T_stL x0 x1 (stL w x1 (8 - x10.toNat) x10.toNat m)) .no
noncomputable def OL_sWrite_8 (l : List At) : Tr (Ex × List At) := O_sWrite_8 (aI l 0) (aI l 1) (aI l 10) (fun i => [aI l 2, aI l 3, aI l 4, aI l 5, aI l 6, aI l 7, aI l 8, aI l 9].getD i 0) ⟨aRn l 15, aRg l 15, aMh l 15 16 2, aB l 11, aB l 12, aI l 13, aI l 14⟩
def μ_sWrite_8 (l : List At) : Nat := (8 - aI l 10).toNat

theorem rd_sWrite_8 : ∀ l r, (OL_sWrite_8 l).val = some r → RoundS BL_sWrite_8 OL_sWrite_8 μ_sWrite_8 l r := by
  intro l r hh
  unfold OL_sWrite_8 at hh
  obtain ⟨hc, h⟩ := guard_val hh
  clear hh
  obtain ⟨c0, c1, c2⟩ := of_pdec hc
  unfold RoundS BL_sWrite_8 B_sWrite_8
  generalize hx0 : aI l 0 = x0 at *
  generalize hx1 : aI l 1 = x1 at *
  generalize hx10 : aI l 10 = x10 at *
  refine brD (fun h1 => ?_) (fun h1 => ?_)
  · obtain ⟨i, rfl⟩ := Int.eq_ofNat_of_zero_le c0
    rw [Int.toNat_natCast] at h ⊢
    have hw : IntKind.i64.wrap ((i : Int) + 1) = (i : Int) + 1 := wrap_i64 (by omega) (by omega)
    have hμ : (8 - ((i : Int) + 1)).toNat < μ_sWrite_8 l := by unfold μ_sWrite_8; rw [hx10]; omega
    have e1 : 8 - i = (8 - ((i : Int) + 1).toNat) + 1 := by omega
    rw [e1, stL] at h
    rw [hw]
    refine brW (fun _ => brT (pdec_yes (c2.mono (by omega))) (brNE (fun hne => ?_) (fun he => ?_))) (fun hh => by exfalso; omega)
    · rw [if_neg hne] at h
      have hv := val_ok ((br_t (g := 0) (show (_ != (0 : Int)) = true by simpa using hne)).symm.trans h)
      subst hv
      exact out_ (by simp) rfl (AtsEq.refl _)
    · rw [if_pos he] at h
      have hq : preW ((i : Int) + 1) _ := ⟨by omega, by omega, (stM_ok (i := x1) (w := (i : Int)) (v := [aI l 2, aI l 3, aI l 4, aI l 5, aI l 6, aI l 7, aI l 8, aI l 9].getD i 0) c2 (by omega)).mono (by omega)⟩
      exact on_ _ r (AtsEq.refl _) hμ ((br_t (g := 0) (pdec_yes hq)).trans h) rfl (AtsEq.refl _)
  · have e : 8 - x10.toNat = 0 := by omega
    rw [e, stL] at h
    have hv := val_ok h
    subst hv
    exact out_ (by simp) rfl (AtsEq.refl _)
end Go.Proofs.Ytgmhggipaopoiaa.G
end

/-
  What functions of the seat compute, printed by a program from the explorer.
-/
section
namespace Go.Proofs.Ytgmhggipaopoiaa.G
open Go Go.AM Go.Proofs
theorem f_sWrite_8 : LoopF Try.prog 3 (loopAt Try.f22 8) (loopFn 3 lsh_sWrite_8 xs_sWrite_8 OL_sWrite_8) :=
  loop_sat (sy := y_sWrite_8) (fuel := 100) (Lp := noLoops) o_sFind mixed (loopsOK_at (noLoops_ok _) 8) rfl eB_sWrite_8 rd_sWrite_8
noncomputable def Lp_sWrite_8 : Loops := Loops.set noLoops 8 (loopFn 3 lsh_sWrite_8 xs_sWrite_8 OL_sWrite_8)
theorem lk_sWrite_8 : LoopsFn Try.prog 3 Lp_sWrite_8 Try.f22 := loopsFn_set (noLoops_ok _) (by kernel_rfl) f_sWrite_8

/-! ### sWrite -/

noncomputable def ish_sWrite : FSh := ⟨[.v false [.p 0 0], .v false [.k (.n .i64)], .v false [.k (.n .i64)], .v true [.k (.n .i64), .k (.n .i64), .k (.n .i64), .k (.n .i64)]], [.cells [.sw 1 25, .k .b, .k .b, .k (.n .i64), .k (.n .i64)], .nrows [.n .u64, .n .u64, .n .u64, .n .u64, .n .u64, .n .u64, .n .u64, .n .u64, .n .u64, .n .u64, .n .u64, .n .u64, .n .u64, .n .u64, .n .u64, .n .u64, .n .i64, .n .i64, .n .i64, .n .i64, .n .i64, .n .i64, .n .i64, .n .i64, .n .i64] 16 [.n .i64, .n .u64] 2 false true, .no]⟩
noncomputable def osh_sWrite : FSh := ⟨[.v false [.k (.n .i64)]], [.cells [.sw 1 25, .k .b, .k .b, .k (.n .i64), .k (.n .i64)], .nrows [.n .u64, .n .u64, .n .u64, .n .u64, .n .u64, .n .u64, .n .u64, .n .u64, .n .u64, .n .u64, .n .u64, .n .u64, .n .u64, .n .u64, .n .u64, .n .u64, .n .i64, .n .i64, .n .i64, .n .i64, .n .i64, .n .i64, .n .i64, .n .i64, .n .i64] 16 [.n .i64, .n .u64] 3 false true, .no, .no]⟩
noncomputable def T_sWrite_s0 (x0 : Int) (x1 : Int) (x2 : Int) (x3 : Int) (x4 : Int) (x5 : Int) (x6 : Bool) (x7 : Bool) (x8 : Int) (x9 : Int) (n10 : Nat) (g10 : Nat → Nat → Int) (h10 : Nat → Nat → Int) : Tr (List At) :=
 .br 35 (Go.Proofs.Ytgmhggipaopoiaa.G.Mem.stC { n := n10, g := g10, h := h10, off := x6, burns := x7, left := x8, steps := x9 } x1 (7 : Int) != (0 : Int))
 (.ok [(.i (Go.Proofs.Ytgmhggipaopoiaa.G.Mem.stC { n := n10, g := g10, h := h10, off := x6, burns := x7, left := x8, steps := x9 } x1 (7 : Int))), (.b ((Go.Proofs.Ytgmhggipaopoiaa.G.Mem.stM { n := n10, g := g10, h := h10, off := x6, burns := x7, left := x8, steps := x9 } x1 (7 : Int) (0 : Int)).off)), (.b ((Go.Proofs.Ytgmhggipaopoiaa.G.Mem.stM { n := n10, g := g10, h := h10, off := x6, burns := x7, left := x8, steps := x9 } x1 (7 : Int) (0 : Int)).burns)), (.i ((Go.Proofs.Ytgmhggipaopoiaa.G.Mem.stM { n := n10, g := g10, h := h10, off := x6, burns := x7, left := x8, steps := x9 } x1 (7 : Int) (0 : Int)).left)), (.i ((Go.Proofs.Ytgmhggipaopoiaa.G.Mem.stM { n := n10, g := g10, h := h10, off := x6, burns := x7, left := x8, steps := x9 } x1 (7 : Int) (0 : Int)).steps)), (.q ((Go.Proofs.Ytgmhggipaopoiaa.G.Mem.stM { n := n10, g := g10, h := h10, off := x6, burns := x7, left := x8, steps := x9 } x1 (7 : Int) (0 : Int)).n) ((Go.Proofs.Ytgmhggipaopoiaa.G.Mem.stM { n := n10, g := g10, h := h10, off := x6, burns := x7, left := x8, steps := x9 } x1 (7 : Int) (0 : Int)).g) ((16 : Nat)) ((2 : Nat)) ((Go.Proofs.Ytgmhggipaopoiaa.G.Mem.stM { n := n10, g := g10, h := h10, off := x6, burns := x7, left := x8, steps := x9 } x1 (7 : Int) (0 : Int)).h))])
 (.br 0 (Go.Proofs.Ytgmhggipaopoiaa.G.pdec (Go.Proofs.Ytgmhggipaopoiaa.G.preW (0 : Int) (Go.Proofs.Ytgmhggipaopoiaa.G.Mem.stM { n := n10, g := g10, h := h10, off := x6, burns := x7, left := x8, steps := x9 } x1 (7 : Int) (0 : Int))))
 (.br 0 ((Go.Proofs.Ytgmhggipaopoiaa.G.stL (fun (i : Nat) => List.getD [Go.Proofs.Ytgmhggipaopoiaa.G.r_sLine_0 x2 x3 x4 x5, Go.Proofs.Ytgmhggipaopoiaa.G.r_sLine_1 x2 x3 x4 x5, Go.Proofs.Ytgmhggipaopoiaa.G.r_sLine_2 x2 x3 x4 x5, Go.Proofs.Ytgmhggipaopoiaa.G.r_sLine_3 x2 x3 x4 x5, Go.Proofs.Ytgmhggipaopoiaa.G.r_sLine_4 x2 x3 x4 x5, Go.Proofs.Ytgmhggipaopoiaa.G.r_sLine_5 x2 x3 x4 x5, Go.Proofs.Ytgmhggipaopoiaa.G.r_sLine_6 x2 x3 x4 x5, Go.Proofs.Ytgmhggipaopoiaa.G.r_sLine_7 x2 x3 x4 x5] i (0 : Int)) x1 (8 : Nat) (0 : Nat) (Go.Proofs.Ytgmhggipaopoiaa.G.Mem.stM { n := n10, g := g10, h := h10, off := x6, burns := x7, left := x8, steps := x9 } x1 (7 : Int) (0 : Int))).snd != (0 : Int))
 (.ok [(.i ((Go.Proofs.Ytgmhggipaopoiaa.G.stL (fun (i : Nat) => List.getD [Go.Proofs.Ytgmhggipaopoiaa.G.r_sLine_0 x2 x3 x4 x5, Go.Proofs.Ytgmhggipaopoiaa.G.r_sLine_1 x2 x3 x4 x5, Go.Proofs.Ytgmhggipaopoiaa.G.r_sLine_2 x2 x3 x4 x5, Go.Proofs.Ytgmhggipaopoiaa.G.r_sLine_3 x2 x3 x4 x5, Go.Proofs.Ytgmhggipaopoiaa.G.r_sLine_4 x2 x3 x4 x5, Go.Proofs.Ytgmhggipaopoiaa.G.r_sLine_5 x2 x3 x4 x5, Go.Proofs.Ytgmhggipaopoiaa.G.r_sLine_6 x2 x3 x4 x5, Go.Proofs.Ytgmhggipaopoiaa.G.r_sLine_7 x2 x3 x4 x5] i (0 : Int)) x1 (8 : Nat) (0 : Nat) (Go.Proofs.Ytgmhggipaopoiaa.G.Mem.stM { n := n10, g := g10, h := h10, off := x6, burns := x7, left := x8, steps := x9 } x1 (7 : Int) (0 : Int))).snd)), (.b ((Go.Proofs.Ytgmhggipaopoiaa.G.stL (fun (i : Nat) => List.getD [Go.Proofs.Ytgmhggipaopoiaa.G.r_sLine_0 x2 x3 x4 x5, Go.Proofs.Ytgmhggipaopoiaa.G.r_sLine_1 x2 x3 x4 x5, Go.Proofs.Ytgmhggipaopoiaa.G.r_sLine_2 x2 x3 x4 x5, Go.Proofs.Ytgmhggipaopoiaa.G.r_sLine_3 x2 x3 x4 x5, Go.Proofs.Ytgmhggipaopoiaa.G.r_sLine_4 x2 x3 x4 x5, Go.Proofs.Ytgmhggipaopoiaa.G.r_sLine_5 x2 x3 x4 x5, Go.Proofs.Ytgmhggipaopoiaa.G.r_sLine_6 x2 x3 x4 x5, Go.Proofs.Ytgmhggipaopoiaa.G.r_sLine_7 x2 x3 x4 x5] i (0 : Int)) x1 (8 : Nat) (0 : Nat) (Go.Proofs.Ytgmhggipaopoiaa.G.Mem.stM { n := n10, g := g10, h := h10, off := x6, burns := x7, left := x8, steps := x9 } x1 (7 : Int) (0 : Int))).fst.off)), (.b ((Go.Proofs.Ytgmhggipaopoiaa.G.stL (fun (i : Nat) => List.getD [Go.Proofs.Ytgmhggipaopoiaa.G.r_sLine_0 x2 x3 x4 x5, Go.Proofs.Ytgmhggipaopoiaa.G.r_sLine_1 x2 x3 x4 x5, Go.Proofs.Ytgmhggipaopoiaa.G.r_sLine_2 x2 x3 x4 x5, Go.Proofs.Ytgmhggipaopoiaa.G.r_sLine_3 x2 x3 x4 x5, Go.Proofs.Ytgmhggipaopoiaa.G.r_sLine_4 x2 x3 x4 x5, Go.Proofs.Ytgmhggipaopoiaa.G.r_sLine_5 x2 x3 x4 x5, Go.Proofs.Ytgmhggipaopoiaa.G.r_sLine_6 x2 x3 x4 x5, Go.Proofs.Ytgmhggipaopoiaa.G.r_sLine_7 x2 x3 x4 x5] i (0 : Int)) x1 (8 : Nat) (0 : Nat) (Go.Proofs.Ytgmhggipaopoiaa.G.Mem.stM { n := n10, g := g10, h := h10, off := x6, burns := x7, left := x8, steps := x9 } x1 (7 : Int) (0 : Int))).fst.burns)), (.i ((Go.Proofs.Ytgmhggipaopoiaa.G.stL (fun (i : Nat) => List.getD [Go.Proofs.Ytgmhggipaopoiaa.G.r_sLine_0 x2 x3 x4 x5, Go.Proofs.Ytgmhggipaopoiaa.G.r_sLine_1 x2 x3 x4 x5, Go.Proofs.Ytgmhggipaopoiaa.G.r_sLine_2 x2 x3 x4 x5, Go.Proofs.Ytgmhggipaopoiaa.G.r_sLine_3 x2 x3 x4 x5, Go.Proofs.Ytgmhggipaopoiaa.G.r_sLine_4 x2 x3 x4 x5, Go.Proofs.Ytgmhggipaopoiaa.G.r_sLine_5 x2 x3 x4 x5, Go.Proofs.Ytgmhggipaopoiaa.G.r_sLine_6 x2 x3 x4 x5, Go.Proofs.Ytgmhggipaopoiaa.G.r_sLine_7 x2 x3 x4 x5] i (0 : Int)) x1 (8 : Nat) (0 : Nat) (Go.Proofs.Ytgmhggipaopoiaa.G.Mem.stM { n := n10, g := g10, h := h10, off := x6, burns := x7, left := x8, steps := x9 } x1 (7 : Int) (0 : Int))).fst.left)), (.i ((Go.Proofs.Ytgmhggipaopoiaa.G.stL (fun (i : Nat) => List.getD [Go.Proofs.Ytgmhggipaopoiaa.G.r_sLine_0 x2 x3 x4 x5, Go.Proofs.Ytgmhggipaopoiaa.G.r_sLine_1 x2 x3 x4 x5, Go.Proofs.Ytgmhggipaopoiaa.G.r_sLine_2 x2 x3 x4 x5, Go.Proofs.Ytgmhggipaopoiaa.G.r_sLine_3 x2 x3 x4 x5, Go.Proofs.Ytgmhggipaopoiaa.G.r_sLine_4 x2 x3 x4 x5, Go.Proofs.Ytgmhggipaopoiaa.G.r_sLine_5 x2 x3 x4 x5, Go.Proofs.Ytgmhggipaopoiaa.G.r_sLine_6 x2 x3 x4 x5, Go.Proofs.Ytgmhggipaopoiaa.G.r_sLine_7 x2 x3 x4 x5] i (0 : Int)) x1 (8 : Nat) (0 : Nat) (Go.Proofs.Ytgmhggipaopoiaa.G.Mem.stM { n := n10, g := g10, h := h10, off := x6, burns := x7, left := x8, steps := x9 } x1 (7 : Int) (0 : Int))).fst.steps)), (.q ((Go.Proofs.Ytgmhggipaopoiaa.G.stL (fun (i : Nat) => List.getD [Go.Proofs.Ytgmhggipaopoiaa.G.r_sLine_0 x2 x3 x4 x5, Go.Proofs.Ytgmhggipaopoiaa.G.r_sLine_1 x2 x3 x4 x5, Go.Proofs.Ytgmhggipaopoiaa.G.r_sLine_2 x2 x3 x4 x5, Go.Proofs.Ytgmhggipaopoiaa.G.r_sLine_3 x2 x3 x4 x5, Go.Proofs.Ytgmhggipaopoiaa.G.r_sLine_4 x2 x3 x4 x5, Go.Proofs.Ytgmhggipaopoiaa.G.r_sLine_5 x2 x3 x4 x5, Go.Proofs.Ytgmhggipaopoiaa.G.r_sLine_6 x2 x3 x4 x5, Go.Proofs.Ytgmhggipaopoiaa.G.r_sLine_7 x2 x3 x4 x5] i (0 : Int)) x1 (8 : Nat) (0 : Nat) (Go.Proofs.Ytgmhggipaopoiaa.G.Mem.stM { n := n10, g := g10, h := h10, off := x6, burns := x7, left := x8, steps := x9 } x1 (7 : Int) (0 : Int))).fst.n) ((Go.Proofs.Ytgmhggipaopoiaa.G.stL (fun (i : Nat) => List.getD [Go.Proofs.Ytgmhggipaopoiaa.G.r_sLine_0 x2 x3 x4 x5, Go.Proofs.Ytgmhggipaopoiaa.G.r_sLine_1 x2 x3 x4 x5, Go.Proofs.Ytgmhggipaopoiaa.G.r_sLine_2 x2 x3 x4 x5, Go.Proofs.Ytgmhggipaopoiaa.G.r_sLine_3 x2 x3 x4 x5, Go.Proofs.Ytgmhggipaopoiaa.G.r_sLine_4 x2 x3 x4 x5, Go.Proofs.Ytgmhggipaopoiaa.G.r_sLine_5 x2 x3 x4 x5, Go.Proofs.Ytgmhggipaopoiaa.G.r_sLine_6 x2 x3 x4 x5, Go.Proofs.Ytgmhggipaopoiaa.G.r_sLine_7 x2 x3 x4 x5] i (0 : Int)) x1 (8 : Nat) (0 : Nat) (Go.Proofs.Ytgmhggipaopoiaa.G.Mem.stM { n := n10, g := g10, h := h10, off := x6, burns := x7, left := x8, steps := x9 } x1 (7 : Int) (0 : Int))).fst.g) ((16 : Nat)) ((2 : Nat)) ((Go.Proofs.Ytgmhggipaopoiaa.G.stL (fun (i : Nat) => List.getD [Go.Proofs.Ytgmhggipaopoiaa.G.r_sLine_0 x2 x3 x4 x5, Go.Proofs.Ytgmhggipaopoiaa.G.r_sLine_1 x2 x3 x4 x5, Go.Proofs.Ytgmhggipaopoiaa.G.r_sLine_2 x2 x3 x4 x5, Go.Proofs.Ytgmhggipaopoiaa.G.r_sLine_3 x2 x3 x4 x5, Go.Proofs.Ytgmhggipaopoiaa.G.r_sLine_4 x2 x3 x4 x5, Go.Proofs.Ytgmhggipaopoiaa.G.r_sLine_5 x2 x3 x4 x5, Go.Proofs.Ytgmhggipaopoiaa.G.r_sLine_6 x2 x3 x4 x5, Go.Proofs.Ytgmhggipaopoiaa.G.r_sLine_7 x2 x3 x4 x5] i (0 : Int)) x1 (8 : Nat) (0 : Nat) (Go.Proofs.Ytgmhggipaopoiaa.G.Mem.stM { n := n10, g := g10, h := h10, off := x6, burns := x7, left := x8, steps := x9 } x1 (7 : Int) (0 : Int))).fst.h))])
 (.br 0 (Go.Proofs.Ytgmhggipaopoiaa.G.pdec (Go.Proofs.Ytgmhggipaopoiaa.G.Mem.Ok (900000 : Int) (Go.Proofs.Ytgmhggipaopoiaa.G.stL (fun (i : Nat) => List.getD [Go.Proofs.Ytgmhggipaopoiaa.G.r_sLine_0 x2 x3 x4 x5, Go.Proofs.Ytgmhggipaopoiaa.G.r_sLine_1 x2 x3 x4 x5, Go.Proofs.Ytgmhggipaopoiaa.G.r_sLine_2 x2 x3 x4 x5, Go.Proofs.Ytgmhggipaopoiaa.G.r_sLine_3 x2 x3 x4 x5, Go.Proofs.Ytgmhggipaopoiaa.G.r_sLine_4 x2 x3 x4 x5, Go.Proofs.Ytgmhggipaopoiaa.G.r_sLine_5 x2 x3 x4 x5, Go.Proofs.Ytgmhggipaopoiaa.G.r_sLine_6 x2 x3 x4 x5, Go.Proofs.Ytgmhggipaopoiaa.G.r_sLine_7 x2 x3 x4 x5] i (0 : Int)) x1 (8 : Nat) (0 : Nat) (Go.Proofs.Ytgmhggipaopoiaa.G.Mem.stM { n := n10, g := g10, h := h10, off := x6, burns := x7, left := x8, steps := x9 } x1 (7 : Int) (0 : Int))).fst))
 (.br 56 (Go.Proofs.Ytgmhggipaopoiaa.G.Mem.stC (Go.Proofs.Ytgmhggipaopoiaa.G.stL (fun (i : Nat) => List.getD [Go.Proofs.Ytgmhggipaopoiaa.G.r_sLine_0 x2 x3 x4 x5, Go.Proofs.Ytgmhggipaopoiaa.G.r_sLine_1 x2 x3 x4 x5, Go.Proofs.Ytgmhggipaopoiaa.G.r_sLine_2 x2 x3 x4 x5, Go.Proofs.Ytgmhggipaopoiaa.G.r_sLine_3 x2 x3 x4 x5, Go.Proofs.Ytgmhggipaopoiaa.G.r_sLine_4 x2 x3 x4 x5, Go.Proofs.Ytgmhggipaopoiaa.G.r_sLine_5 x2 x3 x4 x5, Go.Proofs.Ytgmhggipaopoiaa.G.r_sLine_6 x2 x3 x4 x5, Go.Proofs.Ytgmhggipaopoiaa.G.r_sLine_7 x2 x3 x4 x5] i (0 : Int)) x1 (8 : Nat) (0 : Nat) (Go.Proofs.Ytgmhggipaopoiaa.G.Mem.stM { n := n10, g := g10, h := h10, off := x6, burns := x7, left := x8, steps := x9 } x1 (7 : Int) (0 : Int))).fst x1 x0 != (0 : Int))
 (.ok [(.i (Go.Proofs.Ytgmhggipaopoiaa.G.Mem.stC (Go.Proofs.Ytgmhggipaopoiaa.G.stL (fun (i : Nat) => List.getD [Go.Proofs.Ytgmhggipaopoiaa.G.r_sLine_0 x2 x3 x4 x5, Go.Proofs.Ytgmhggipaopoiaa.G.r_sLine_1 x2 x3 x4 x5, Go.Proofs.Ytgmhggipaopoiaa.G.r_sLine_2 x2 x3 x4 x5, Go.Proofs.Ytgmhggipaopoiaa.G.r_sLine_3 x2 x3 x4 x5, Go.Proofs.Ytgmhggipaopoiaa.G.r_sLine_4 x2 x3 x4 x5, Go.Proofs.Ytgmhggipaopoiaa.G.r_sLine_5 x2 x3 x4 x5, Go.Proofs.Ytgmhggipaopoiaa.G.r_sLine_6 x2 x3 x4 x5, Go.Proofs.Ytgmhggipaopoiaa.G.r_sLine_7 x2 x3 x4 x5] i (0 : Int)) x1 (8 : Nat) (0 : Nat) (Go.Proofs.Ytgmhggipaopoiaa.G.Mem.stM { n := n10, g := g10, h := h10, off := x6, burns := x7, left := x8, steps := x9 } x1 (7 : Int) (0 : Int))).fst x1 x0)), (.b ((Go.Proofs.Ytgmhggipaopoiaa.G.Mem.flM (Go.Proofs.Ytgmhggipaopoiaa.G.stL (fun (i : Nat) => List.getD [Go.Proofs.Ytgmhggipaopoiaa.G.r_sLine_0 x2 x3 x4 x5, Go.Proofs.Ytgmhggipaopoiaa.G.r_sLine_1 x2 x3 x4 x5, Go.Proofs.Ytgmhggipaopoiaa.G.r_sLine_2 x2 x3 x4 x5, Go.Proofs.Ytgmhggipaopoiaa.G.r_sLine_3 x2 x3 x4 x5, Go.Proofs.Ytgmhggipaopoiaa.G.r_sLine_4 x2 x3 x4 x5, Go.Proofs.Ytgmhggipaopoiaa.G.r_sLine_5 x2 x3 x4 x5, Go.Proofs.Ytgmhggipaopoiaa.G.r_sLine_6 x2 x3 x4 x5, Go.Proofs.Ytgmhggipaopoiaa.G.r_sLine_7 x2 x3 x4 x5] i (0 : Int)) x1 (8 : Nat) (0 : Nat) (Go.Proofs.Ytgmhggipaopoiaa.G.Mem.stM { n := n10, g := g10, h := h10, off := x6, burns := x7, left := x8, steps := x9 } x1 (7 : Int) (0 : Int))).fst x0 x1).off)), (.b ((Go.Proofs.Ytgmhggipaopoiaa.G.Mem.flM (Go.Proofs.Ytgmhggipaopoiaa.G.stL (fun (i : Nat) => List.getD [Go.Proofs.Ytgmhggipaopoiaa.G.r_sLine_0 x2 x3 x4 x5, Go.Proofs.Ytgmhggipaopoiaa.G.r_sLine_1 x2 x3 x4 x5, Go.Proofs.Ytgmhggipaopoiaa.G.r_sLine_2 x2 x3 x4 x5, Go.Proofs.Ytgmhggipaopoiaa.G.r_sLine_3 x2 x3 x4 x5, Go.Proofs.Ytgmhggipaopoiaa.G.r_sLine_4 x2 x3 x4 x5, Go.Proofs.Ytgmhggipaopoiaa.G.r_sLine_5 x2 x3 x4 x5, Go.Proofs.Ytgmhggipaopoiaa.G.r_sLine_6 x2 x3 x4 x5, Go.Proofs.Ytgmhggipaopoiaa.G.r_sLine_7 x2 x3 x4 x5] i (0 : Int)) x1 (8 : Nat) (0 : Nat) (Go.Proofs.Ytgmhggipaopoiaa.G.Mem.stM { n := n10, g := g10, h := h10, off := x6, burns := x7, left := x8, steps := x9 } x1 (7 : Int) (0 : Int))).fst x0 x1).burns)), (.i ((Go.Proofs.Ytgmhggipaopoiaa.G.Mem.flM (Go.Proofs.Ytgmhggipaopoiaa.G.stL (fun (i : Nat) => List.getD [Go.Proofs.Ytgmhggipaopoiaa.G.r_sLine_0 x2 x3 x4 x5, Go.Proofs.Ytgmhggipaopoiaa.G.r_sLine_1 x2 x3 x4 x5, Go.Proofs.Ytgmhggipaopoiaa.G.r_sLine_2 x2 x3 x4 x5, Go.Proofs.Ytgmhggipaopoiaa.G.r_sLine_3 x2 x3 x4 x5, Go.Proofs.Ytgmhggipaopoiaa.G.r_sLine_4 x2 x3 x4 x5, Go.Proofs.Ytgmhggipaopoiaa.G.r_sLine_5 x2 x3 x4 x5, Go.Proofs.Ytgmhggipaopoiaa.G.r_sLine_6 x2 x3 x4 x5, Go.Proofs.Ytgmhggipaopoiaa.G.r_sLine_7 x2 x3 x4 x5] i (0 : Int)) x1 (8 : Nat) (0 : Nat) (Go.Proofs.Ytgmhggipaopoiaa.G.Mem.stM { n := n10, g := g10, h := h10, off := x6, burns := x7, left := x8, steps := x9 } x1 (7 : Int) (0 : Int))).fst x0 x1).left)), (.i ((Go.Proofs.Ytgmhggipaopoiaa.G.Mem.flM (Go.Proofs.Ytgmhggipaopoiaa.G.stL (fun (i : Nat) => List.getD [Go.Proofs.Ytgmhggipaopoiaa.G.r_sLine_0 x2 x3 x4 x5, Go.Proofs.Ytgmhggipaopoiaa.G.r_sLine_1 x2 x3 x4 x5, Go.Proofs.Ytgmhggipaopoiaa.G.r_sLine_2 x2 x3 x4 x5, Go.Proofs.Ytgmhggipaopoiaa.G.r_sLine_3 x2 x3 x4 x5, Go.Proofs.Ytgmhggipaopoiaa.G.r_sLine_4 x2 x3 x4 x5, Go.Proofs.Ytgmhggipaopoiaa.G.r_sLine_5 x2 x3 x4 x5, Go.Proofs.Ytgmhggipaopoiaa.G.r_sLine_6 x2 x3 x4 x5, Go.Proofs.Ytgmhggipaopoiaa.G.r_sLine_7 x2 x3 x4 x5] i (0 : Int)) x1 (8 : Nat) (0 : Nat) (Go.Proofs.Ytgmhggipaopoiaa.G.Mem.stM { n := n10, g := g10, h := h10, off := x6, burns := x7, left := x8, steps := x9 } x1 (7 : Int) (0 : Int))).fst x0 x1).steps)), (.q ((Go.Proofs.Ytgmhggipaopoiaa.G.Mem.flM (Go.Proofs.Ytgmhggipaopoiaa.G.stL (fun (i : Nat) => List.getD [Go.Proofs.Ytgmhggipaopoiaa.G.r_sLine_0 x2 x3 x4 x5, Go.Proofs.Ytgmhggipaopoiaa.G.r_sLine_1 x2 x3 x4 x5, Go.Proofs.Ytgmhggipaopoiaa.G.r_sLine_2 x2 x3 x4 x5, Go.Proofs.Ytgmhggipaopoiaa.G.r_sLine_3 x2 x3 x4 x5, Go.Proofs.Ytgmhggipaopoiaa.G.r_sLine_4 x2 x3 x4 x5, Go.Proofs.Ytgmhggipaopoiaa.G.r_sLine_5 x2 x3 x4 x5, Go.Proofs.Ytgmhggipaopoiaa.G.r_sLine_6 x2 x3 x4 x5, Go.Proofs.Ytgmhggipaopoiaa.G.r_sLine_7 x2 x3 x4 x5] i (0 : Int)) x1 (8 : Nat) (0 : Nat) (Go.Proofs.Ytgmhggipaopoiaa.G.Mem.stM { n := n10, g := g10, h := h10, off := x6, burns := x7, left := x8, steps := x9 } x1 (7 : Int) (0 : Int))).fst x0 x1).n) ((Go.Proofs.Ytgmhggipaopoiaa.G.Mem.flM (Go.Proofs.Ytgmhggipaopoiaa.G.stL (fun (i : Nat) => List.getD [Go.Proofs.Ytgmhggipaopoiaa.G.r_sLine_0 x2 x3 x4 x5, Go.Proofs.Ytgmhggipaopoiaa.G.r_sLine_1 x2 x3 x4 x5, Go.Proofs.Ytgmhggipaopoiaa.G.r_sLine_2 x2 x3 x4 x5, Go.Proofs.Ytgmhggipaopoiaa.G.r_sLine_3 x2 x3 x4 x5, Go.Proofs.Ytgmhggipaopoiaa.G.r_sLine_4 x2 x3 x4 x5, Go.Proofs.Ytgmhggipaopoiaa.G.r_sLine_5 x2 x3 x4 x5, Go.Proofs.Ytgmhggipaopoiaa.G.r_sLine_6 x2 x3 x4 x5, Go.Proofs.Ytgmhggipaopoiaa.G.r_sLine_7 x2 x3 x4 x5] i (0 : Int)) x1 (8 : Nat) (0 : Nat) (Go.Proofs.Ytgmhggipaopoiaa.G.Mem.stM { n := n10, g := g10, h := h10, off := x6, burns := x7, left := x8, steps := x9 } x1 (7 : Int) (0 : Int))).fst x0 x1).g) ((16 : Nat)) ((2 : Nat)) ((Go.Proofs.Ytgmhggipaopoiaa.G.Mem.flM (Go.Proofs.Ytgmhggipaopoiaa.G.stL (fun (i : Nat) => List.getD [Go.Proofs.Ytgmhggipaopoiaa.G.r_sLine_0 x2 x3 x4 x5, Go.Proofs.Ytgmhggipaopoiaa.G.r_sLine_1 x2 x3 x4 x5, Go.Proofs.Ytgmhggipaopoiaa.G.r_sLine_2 x2 x3 x4 x5, Go.Proofs.Ytgmhggipaopoiaa.G.r_sLine_3 x2 x3 x4 x5, Go.Proofs.Ytgmhggipaopoiaa.G.r_sLine_4 x2 x3 x4 x5, Go.Proofs.Ytgmhggipaopoiaa.G.r_sLine_5 x2 x3 x4 x5, Go.Proofs.Ytgmhggipaopoiaa.G.r_sLine_6 x2 x3 x4 x5, Go.Proofs.Ytgmhggipaopoiaa.G.r_sLine_7 x2 x3 x4 x5] i (0 : Int)) x1 (8 : Nat) (0 : Nat) (Go.Proofs.Ytgmhggipaopoiaa.G.Mem.stM { n := n10, g := g10, h := h10, off := x6, burns := x7, left := x8, steps := x9 } x1 (7 : Int) (0 : Int))).fst x0 x1).h))])
 (.br 0 (Go.Proofs.Ytgmhggipaopoiaa.G.pdec (Go.Proofs.Ytgmhggipaopoiaa.G.Mem.Ok (900000 : Int) (Go.Proofs.Ytgmhggipaopoiaa.G.Mem.flM (Go.Proofs.Ytgmhggipaopoiaa.G.stL (fun (i : Nat) => List.getD [Go.Proofs.Ytgmhggipaopoiaa.G.r_sLine_0 x2 x3 x4 x5, Go.Proofs.Ytgmhggipaopoiaa.G.r_sLine_1 x2 x3 x4 x5, Go.Proofs.Ytgmhggipaopoiaa.G.r_sLine_2 x2 x3 x4 x5, Go.Proofs.Ytgmhggipaopoiaa.G.r_sLine_3 x2 x3 x4 x5, Go.Proofs.Ytgmhggipaopoiaa.G.r_sLine_4 x2 x3 x4 x5, Go.Proofs.Ytgmhggipaopoiaa.G.r_sLine_5 x2 x3 x4 x5, Go.Proofs.Ytgmhggipaopoiaa.G.r_sLine_6 x2 x3 x4 x5, Go.Proofs.Ytgmhggipaopoiaa.G.r_sLine_7 x2 x3 x4 x5] i (0 : Int)) x1 (8 : Nat) (0 : Nat) (Go.Proofs.Ytgmhggipaopoiaa.G.Mem.stM { n := n10, g := g10, h := h10, off := x6, burns := x7, left := x8, steps := x9 } x1 (7 : Int) (0 : Int))).fst x0 x1)))
 (.ok [(.i (Go.Proofs.Ytgmhggipaopoiaa.G.Mem.feC (Go.Proofs.Ytgmhggipaopoiaa.G.Mem.flM (Go.Proofs.Ytgmhggipaopoiaa.G.stL (fun (i : Nat) => List.getD [Go.Proofs.Ytgmhggipaopoiaa.G.r_sLine_0 x2 x3 x4 x5, Go.Proofs.Ytgmhggipaopoiaa.G.r_sLine_1 x2 x3 x4 x5, Go.Proofs.Ytgmhggipaopoiaa.G.r_sLine_2 x2 x3 x4 x5, Go.Proofs.Ytgmhggipaopoiaa.G.r_sLine_3 x2 x3 x4 x5, Go.Proofs.Ytgmhggipaopoiaa.G.r_sLine_4 x2 x3 x4 x5, Go.Proofs.Ytgmhggipaopoiaa.G.r_sLine_5 x2 x3 x4 x5, Go.Proofs.Ytgmhggipaopoiaa.G.r_sLine_6 x2 x3 x4 x5, Go.Proofs.Ytgmhggipaopoiaa.G.r_sLine_7 x2 x3 x4 x5] i (0 : Int)) x1 (8 : Nat) (0 : Nat) (Go.Proofs.Ytgmhggipaopoiaa.G.Mem.stM { n := n10, g := g10, h := h10, off := x6, burns := x7, left := x8, steps := x9 } x1 (7 : Int) (0 : Int))).fst x0 x1) x0)), (.b ((Go.Proofs.Ytgmhggipaopoiaa.G.Mem.feM (Go.Proofs.Ytgmhggipaopoiaa.G.Mem.flM (Go.Proofs.Ytgmhggipaopoiaa.G.stL (fun (i : Nat) => List.getD [Go.Proofs.Ytgmhggipaopoiaa.G.r_sLine_0 x2 x3 x4 x5, Go.Proofs.Ytgmhggipaopoiaa.G.r_sLine_1 x2 x3 x4 x5, Go.Proofs.Ytgmhggipaopoiaa.G.r_sLine_2 x2 x3 x4 x5, Go.Proofs.Ytgmhggipaopoiaa.G.r_sLine_3 x2 x3 x4 x5, Go.Proofs.Ytgmhggipaopoiaa.G.r_sLine_4 x2 x3 x4 x5, Go.Proofs.Ytgmhggipaopoiaa.G.r_sLine_5 x2 x3 x4 x5, Go.Proofs.Ytgmhggipaopoiaa.G.r_sLine_6 x2 x3 x4 x5, Go.Proofs.Ytgmhggipaopoiaa.G.r_sLine_7 x2 x3 x4 x5] i (0 : Int)) x1 (8 : Nat) (0 : Nat) (Go.Proofs.Ytgmhggipaopoiaa.G.Mem.stM { n := n10, g := g10, h := h10, off := x6, burns := x7, left := x8, steps := x9 } x1 (7 : Int) (0 : Int))).fst x0 x1) x0).off)), (.b ((Go.Proofs.Ytgmhggipaopoiaa.G.Mem.feM (Go.Proofs.Ytgmhggipaopoiaa.G.Mem.flM (Go.Proofs.Ytgmhggipaopoiaa.G.stL (fun (i : Nat) => List.getD [Go.Proofs.Ytgmhggipaopoiaa.G.r_sLine_0 x2 x3 x4 x5, Go.Proofs.Ytgmhggipaopoiaa.G.r_sLine_1 x2 x3 x4 x5, Go.Proofs.Ytgmhggipaopoiaa.G.r_sLine_2 x2 x3 x4 x5, Go.Proofs.Ytgmhggipaopoiaa.G.r_sLine_3 x2 x3 x4 x5, Go.Proofs.Ytgmhggipaopoiaa.G.r_sLine_4 x2 x3 x4 x5, Go.Proofs.Ytgmhggipaopoiaa.G.r_sLine_5 x2 x3 x4 x5, Go.Proofs.Ytgmhggipaopoiaa.G.r_sLine_6 x2 x3 x4 x5, Go.Proofs.Ytgmhggipaopoiaa.G.r_sLine_7 x2 x3 x4 x5] i (0 : Int)) x1 (8 : Nat) (0 : Nat) (Go.Proofs.Ytgmhggipaopoiaa.G.Mem.stM { n := n10, g := g10, h := h10, off := x6, burns := x7, left := x8, steps := x9 } x1 (7 : Int) (0 : Int))).fst x0 x1) x0).burns)), (.i ((Go.Proofs.Ytgmhggipaopoiaa.G.Mem.feM (Go.Proofs.Ytgmhggipaopoiaa.G.Mem.flM (Go.Proofs.Ytgmhggipaopoiaa.G.stL (fun (i : Nat) => List.getD [Go.Proofs.Ytgmhggipaopoiaa.G.r_sLine_0 x2 x3 x4 x5, Go.Proofs.Ytgmhggipaopoiaa.G.r_sLine_1 x2 x3 x4 x5, Go.Proofs.Ytgmhggipaopoiaa.G.r_sLine_2 x2 x3 x4 x5, Go.Proofs.Ytgmhggipaopoiaa.G.r_sLine_3 x2 x3 x4 x5, Go.Proofs.Ytgmhggipaopoiaa.G.r_sLine_4 x2 x3 x4 x5, Go.Proofs.Ytgmhggipaopoiaa.G.r_sLine_5 x2 x3 x4 x5, Go.Proofs.Ytgmhggipaopoiaa.G.r_sLine_6 x2 x3 x4 x5, Go.Proofs.Ytgmhggipaopoiaa.G.r_sLine_7 x2 x3 x4 x5] i (0 : Int)) x1 (8 : Nat) (0 : Nat) (Go.Proofs.Ytgmhggipaopoiaa.G.Mem.stM { n := n10, g := g10, h := h10, off := x6, burns := x7, left := x8, steps := x9 } x1 (7 : Int) (0 : Int))).fst x0 x1) x0).left)), (.i ((Go.Proofs.Ytgmhggipaopoiaa.G.Mem.feM (Go.Proofs.Ytgmhggipaopoiaa.G.Mem.flM (Go.Proofs.Ytgmhggipaopoiaa.G.stL (fun (i : Nat) => List.getD [Go.Proofs.Ytgmhggipaopoiaa.G.r_sLine_0 x2 x3 x4 x5, Go.Proofs.Ytgmhggipaopoiaa.G.r_sLine_1 x2 x3 x4 x5, Go.Proofs.Ytgmhggipaopoiaa.G.r_sLine_2 x2 x3 x4 x5, Go.Proofs.Ytgmhggipaopoiaa.G.r_sLine_3 x2 x3 x4 x5, Go.Proofs.Ytgmhggipaopoiaa.G.r_sLine_4 x2 x3 x4 x5, Go.Proofs.Ytgmhggipaopoiaa.G.r_sLine_5 x2 x3 x4 x5, Go.Proofs.Ytgmhggipaopoiaa.G.r_sLine_6 x2 x3 x4 x5, Go.Proofs.Ytgmhggipaopoiaa.G.r_sLine_7 x2 x3 x4 x5] i (0 : Int)) x1 (8 : Nat) (0 : Nat) (Go.Proofs.Ytgmhggipaopoiaa.G.Mem.stM { n := n10, g := g10, h := h10, off := x6, burns := x7, left := x8, steps := x9 } x1 (7 : Int) (0 : Int))).fst x0 x1) x0).steps)), (.q ((Go.Proofs.Ytgmhggipaopoiaa.G.Mem.feM (Go.Proofs.Ytgmhggipaopoiaa.G.Mem.flM (Go.Proofs.Ytgmhggipaopoiaa.G.stL (fun (i : Nat) => List.getD [Go.Proofs.Ytgmhggipaopoiaa.G.r_sLine_0 x2 x3 x4 x5, Go.Proofs.Ytgmhggipaopoiaa.G.r_sLine_1 x2 x3 x4 x5, Go.Proofs.Ytgmhggipaopoiaa.G.r_sLine_2 x2 x3 x4 x5, Go.Proofs.Ytgmhggipaopoiaa.G.r_sLine_3 x2 x3 x4 x5, Go.Proofs.Ytgmhggipaopoiaa.G.r_sLine_4 x2 x3 x4 x5, Go.Proofs.Ytgmhggipaopoiaa.G.r_sLine_5 x2 x3 x4 x5, Go.Proofs.Ytgmhggipaopoiaa.G.r_sLine_6 x2 x3 x4 x5, Go.Proofs.Ytgmhggipaopoiaa.G.r_sLine_7 x2 x3 x4 x5] i (0 : Int)) x1 (8 : Nat) (0 : Nat) (Go.Proofs.Ytgmhggipaopoiaa.G.Mem.stM { n := n10, g := g10, h := h10, off := x6, burns := x7, left := x8, steps := x9 } x1 (7 : Int) (0 : Int))).fst x0 x1) x0).n) ((Go.Proofs.Ytgmhggipaopoiaa.G.Mem.feM (Go.Proofs.Ytgmhggipaopoiaa.G.Mem.flM (Go.Proofs.Ytgmhggipaopoiaa.G.stL (fun (i : Nat) => List.getD [Go.Proofs.Ytgmhggipaopoiaa.G.r_sLine_0 x2 x3 x4 x5, Go.Proofs.Ytgmhggipaopoiaa.G.r_sLine_1 x2 x3 x4 x5, Go.Proofs.Ytgmhggipaopoiaa.G.r_sLine_2 x2 x3 x4 x5, Go.Proofs.Ytgmhggipaopoiaa.G.r_sLine_3 x2 x3 x4 x5, Go.Proofs.Ytgmhggipaopoiaa.G.r_sLine_4 x2 x3 x4 x5, Go.Proofs.Ytgmhggipaopoiaa.G.r_sLine_5 x2 x3 x4 x5, Go.Proofs.Ytgmhggipaopoiaa.G.r_sLine_6 x2 x3 x4 x5, Go.Proofs.Ytgmhggipaopoiaa.G.r_sLine_7 x2 x3 x4 x5] i (0 : Int)) x1 (8 : Nat) (0 : Nat) (Go.Proofs.Ytgmhggipaopoiaa.G.Mem.stM { n := n10, g := g10, h := h10, off := x6, burns := x7, left := x8, steps := x9 } x1 (7 : Int) (0 : Int))).fst x0 x1) x0).g) ((16 : Nat)) ((2 : Nat)) ((Go.Proofs.Ytgmhggipaopoiaa.G.Mem.feM (Go.Proofs.Ytgmhggipaopoiaa.G.Mem.flM (Go.Proofs.Ytgmhggipaopoiaa.G.stL (fun (i : Nat) => List.getD [Go.Proofs.Ytgmhggipaopoiaa.G.r_sLine_0 x2 x3 x4 x5, Go.Proofs.Ytgmhggipaopoiaa.G.r_sLine_1 x2 x3 x4 x5, Go.Proofs.Ytgmhggipaopoiaa.G.r_sLine_2 x2 x3 x4 x5, Go.Proofs.Ytgmhggipaopoiaa.G.r_sLine_3 x2 x3 x4 x5, Go.Proofs.Ytgmhggipaopoiaa.G.r_sLine_4 x2 x3 x4 x5, Go.Proofs.Ytgmhggipaopoiaa.G.r_sLine_5 x2 x3 x4 x5, Go.Proofs.Ytgmhggipaopoiaa.G.r_sLine_6 x2 x3 x4 x5, Go.Proofs.Ytgmhggipaopoiaa.G.r_sLine_7 x2 x3 x4 x5] i (0 : Int)) x1 (8 : Nat) (0 : Nat) (Go.Proofs.Ytgmhggipaopoiaa.G.Mem.stM { n := n10, g := g10, h := h10, off := x6, burns := x7, left := x8, steps := x9 } x1 (7 : Int) (0 : Int))).fst x0 x1) x0).h))])
 (.no)))
 (.no)))
 (.no))
noncomputable def T_sWrite_s1 (x0 : Int) (x1 : Int) (x2 : Int) (x3 : Int) (x4 : Int) (x5 : Int) (x6 : Bool) (x7 : Bool) (x8 : Int) (x9 : Int) (n10 : Nat) (g10 : Nat → Nat → Int) (h10 : Nat → Nat → Int) : Tr (List At) :=
 .br 0 (Go.Proofs.Ytgmhggipaopoiaa.G.pdec (Go.Proofs.Ytgmhggipaopoiaa.G.Mem.Ok (900000 : Int) { n := n10, g := g10, h := h10, off := x6, burns := x7, left := x8, steps := x9 }))
 (T_sWrite_s0 x0 x1 x2 x3 x4 x5 x6 x7 x8 x9 n10 g10 h10)
 (.no)
noncomputable def T_sWrite (x0 : Int) (x1 : Int) (x2 : Int) (x3 : Int) (x4 : Int) (x5 : Int) (x6 : Bool) (x7 : Bool) (x8 : Int) (x9 : Int) (n10 : Nat) (g10 : Nat → Nat → Int) (h10 : Nat → Nat → Int) : Tr (List At) :=
 .br 0 (Go.Proofs.Ytgmhggipaopoiaa.G.ok_sLine x2 x3 x4 x5)
 (.br 23 (Go.Proofs.Ytgmhggipaopoiaa.G.r_sLine_8 x2 x3 x4 x5 != (0 : Int))
 (.ok [(.i ((1 : Int))), (.b (x6)), (.b (x7)), (.i (x8)), (.i (x9)), (.q (n10) (g10) ((16 : Nat)) ((2 : Nat)) (h10))])
 (.br 26 (x1 != (0 : Int))
 (.br 30 (x1 != (1 : Int))
 (.ok [(.i ((1 : Int))), (.b (x6)), (.b (x7)), (.i (x8)), (.i (x9)), (.q (n10) (g10) ((16 : Nat)) ((2 : Nat)) (h10))])
 (T_sWrite_s1 x0 x1 x2 x3 x4 x5 x6 x7 x8 x9 n10 g10 h10))
 (T_sWrite_s1 x0 x1 x2 x3 x4 x5 x6 x7 x8 x9 n10 g10 h10)))
 (.no)
noncomputable def y_sWrite : Nat → Option Nat := (syOf3 [23, 26, 30, 35, 56] [] [])
noncomputable def TL_sWrite (l : List At) : Tr (List At) := T_sWrite (aI l 0) (aI l 1) (aI l 2) (aI l 3) (aI l 4) (aI l 5) (aB l 6) (aB l 7) (aI l 8) (aI l 9) (aRn l 10) (aRg l 10) (aMh l 10 16 2)
theorem e_sWrite (l : List At) : (call Try.prog Γ_sFind y_sWrite Lp_sWrite_8 100 Try.f22 (mkV ish_sWrite l) (mkH ish_sWrite l)).bind (leafO 3 osh_sWrite) = TL_sWrite l := by kernel_rfl
noncomputable def F_sWrite : List At → Tr (List At) := TL_sWrite
theorem s_sWrite : SpecF Try.prog 22 (.eff (locF ish_sWrite osh_sWrite F_sWrite)) :=
  spec_loc (sy := y_sWrite) (fuel := 100) (Lp := Lp_sWrite_8) o_sFind mixed ⟨Try.func22, by kernel_rfl, by kernel_rfl⟩ ish_sWrite osh_sWrite lk_sWrite_8 (hT_ways e_sWrite)
noncomputable def Γ_sWrite : Specs := upd Γ_sFind 22 (.eff (locF ish_sWrite osh_sWrite F_sWrite))
theorem o_sWrite : SpecOK Try.prog Γ_sWrite := SpecOK.upd o_sFind s_sWrite

end Go.Proofs.Ytgmhggipaopoiaa.G
end

/-
  Write, in plain words.
-/
section
namespace Go.Proofs.Ytgmhggipaopoiaa.G
open Go Go.AM Go.Proofs

/-- What Write makes of the memory, and the code: 'w' are the line's words. -/
noncomputable def wrM (w : Nat → Int) (m : Mem) (core slot : Int) : Mem × Int :=
  if m.stC slot 7 ≠ 0 then (m.stM slot 7 0, m.stC slot 7) else
  if (stL w slot 8 0 (m.stM slot 7 0)).2 ≠ 0 then stL w slot 8 0 (m.stM slot 7 0) else
  if (stL w slot 8 0 (m.stM slot 7 0)).1.stC slot core ≠ 0 then ((stL w slot 8 0 (m.stM slot 7 0)).1.flM core slot, (stL w slot 8 0 (m.stM slot 7 0)).1.stC slot core) else
  (((stL w slot 8 0 (m.stM slot 7 0)).1.flM core slot).feM core, ((stL w slot 8 0 (m.stM slot 7 0)).1.flM core slot).feC core)

noncomputable def slW (x2 x3 x4 x5 : Int) : Nat → Int := fun i => [r_sLine_0 x2 x3 x4 x5, r_sLine_1 x2 x3 x4 x5, r_sLine_2 x2 x3 x4 x5, r_sLine_3 x2 x3 x4 x5, r_sLine_4 x2 x3 x4 x5, r_sLine_5 x2 x3 x4 x5, r_sLine_6 x2 x3 x4 x5, r_sLine_7 x2 x3 x4 x5].getD i 0

theorem stL_ok {w : Nat → Int} {s : Int} : ∀ (k i : Nat) (M : Mem) (K : Int), M.Ok K → K + k ≤ 900000 → (stL w s k i M).1.Ok (K + k)
  | 0, _, _, _, h, _ => h.mono (by omega)
  | k + 1, i, M, K, h, hK => by
    rw [stL]
    have h1 := stM_ok (i := s) (w := (i : Int)) (v := w i) h (by omega)
    split
    · exact (stL_ok k (i + 1) _ (K + 1) h1 (by omega)).mono (by omega)
    · exact h1.mono (by omega)

def badW (x1 c : Int) : Bool := c != 0 || (x1 != 0 && x1 != 1)

theorem t_sWrite (x0 x1 x2 x3 x4 x5 : Int) (m : Mem) (hm : m.Ok 880000) (hk : ok_sLine x2 x3 x4 x5 = true) :
    (T_sWrite x0 x1 x2 x3 x4 x5 m.off m.burns m.left m.steps m.n m.g m.h).sat fun r => AtsEq r (bif badW x1 (r_sLine_8 x2 x3 x4 x5) then .i 1 :: m.ats else .i (wrM (slW x2 x3 x4 x5) m x0 x1).2 :: (wrM (slW x2 x3 x4 x5) m x0 x1).1.ats) := by
  have ok1 := stM_ok (i := x1) (w := 7) (v := 0) hm (by decide)
  have ok2 := stL_ok (w := slW x2 x3 x4 x5) (s := x1) 8 0 _ _ ok1 (by decide)
  have ok3 := flM_ok (c := x0) (i := x1) ok2
  have main : (T_sWrite_s1 x0 x1 x2 x3 x4 x5 m.off m.burns m.left m.steps m.n m.g m.h).sat fun r => AtsEq r (.i (wrM (slW x2 x3 x4 x5) m x0 x1).2 :: (wrM (slW x2 x3 x4 x5) m x0 x1).1.ats) := by
    unfold T_sWrite_s1 T_sWrite_s0 wrM
    refine brT (pdec_yes (hm.mono (by decide))) (brNE (fun h1 => Tr.sat_ok.2 ?_) (fun h1 => brT (pdec_yes ⟨Int.le_refl _, by decide, ok1.mono (by decide)⟩) (brC (fun h2 => Tr.sat_ok.2 ?_) (fun h2 => brT ?_ (brC (fun h3 => Tr.sat_ok.2 ?_) (fun h3 => brT ?_ (Tr.sat_ok.2 ?_)))))))
    · rw [if_pos h1]; exact AtsEq.refl _
    · have h2' : (stL (slW x2 x3 x4 x5) x1 8 0 (m.stM x1 7 0)).2 ≠ 0 := by
        have e : ((stL (slW x2 x3 x4 x5) x1 8 0 (m.stM x1 7 0)).2 != 0) = true := h2
        simpa using e
      rw [if_neg (fun hh => hh h1), if_pos h2']
      exact AtsEq.refl _
    · exact pdec_yes (ok2.mono (by decide))
    · have h2' : ¬ (stL (slW x2 x3 x4 x5) x1 8 0 (m.stM x1 7 0)).2 ≠ 0 := by
        have e : ((stL (slW x2 x3 x4 x5) x1 8 0 (m.stM x1 7 0)).2 != 0) = false := h2
        simpa using e
      have h3' : (stL (slW x2 x3 x4 x5) x1 8 0 (m.stM x1 7 0)).1.stC x1 x0 ≠ 0 := by
        have e : ((stL (slW x2 x3 x4 x5) x1 8 0 (m.stM x1 7 0)).1.stC x1 x0 != 0) = true := h3
        simpa using e
      rw [if_neg (fun hh => hh h1), if_neg h2', if_pos h3']
      exact AtsEq.refl _
    · exact pdec_yes (ok3.mono (by decide))
    · have h2' : ¬ (stL (slW x2 x3 x4 x5) x1 8 0 (m.stM x1 7 0)).2 ≠ 0 := by
        have e : ((stL (slW x2 x3 x4 x5) x1 8 0 (m.stM x1 7 0)).2 != 0) = false := h2
        simpa using e
      have h3' : ¬ (stL (slW x2 x3 x4 x5) x1 8 0 (m.stM x1 7 0)).1.stC x1 x0 ≠ 0 := by
        have e : ((stL (slW x2 x3 x4 x5) x1 8 0 (m.stM x1 7 0)).1.stC x1 x0 != 0) = false := h3
        simpa using e
      rw [if_neg (fun hh => hh h1), if_neg h2', if_neg h3']
      exact AtsEq.refl _
  unfold T_sWrite badW
  refine brT hk (brNE (fun h1 => Tr.sat_ok.2 ?_) (fun h1 => brNE (fun h2 => brNE (fun h3 => Tr.sat_ok.2 ?_) (fun h3 => ?_)) (fun h2 => ?_)))
  · have e : (r_sLine_8 x2 x3 x4 x5 != 0) = true := by simpa using h1
    rw [e]; exact AtsEq.refl _
  · have e : (x1 != 0) = true := by simpa using h2
    have e' : (x1 != 1) = true := by simpa using h3
    rw [e, e', h1]; exact AtsEq.refl _
  · subst h3; rw [h1]; exact main
  · subst h2; rw [h1]; exact main

/-- .. whatever is asked. -/
noncomputable def wrA (w : Nat → Int) (c : Int) (m : Mem) (core slot : Int) : Mem × Int := bif badW slot c then (m, 1) else wrM w m core slot

noncomputable def F2_sWrite (l : List At) : Tr (List At) := .br 0 (pdec (Mem.Ok 880000 (mm l 6))) (.br 0 (ok_sLine (aI l 2) (aI l 3) (aI l 4) (aI l 5))
  (.ok (.i (wrA (slW (aI l 2) (aI l 3) (aI l 4) (aI l 5)) (r_sLine_8 (aI l 2) (aI l 3) (aI l 4) (aI l 5)) (mm l 6) (aI l 0) (aI l 1)).2 :: (wrA (slW (aI l 2) (aI l 3) (aI l 4) (aI l 5)) (r_sLine_8 (aI l 2) (aI l 3) (aI l 4) (aI l 5)) (mm l 6) (aI l 0) (aI l 1)).1.ats)) .no) .no
theorem s2_sWrite : SpecF Try.prog 22 (.eff (locF ish_sWrite osh_sWrite F2_sWrite)) :=
  spec_loc (sy := y_sWrite) (fuel := 100) (Lp := Lp_sWrite_8) o_sFind mixed ⟨Try.func22, by kernel_rfl, by kernel_rfl⟩ ish_sWrite osh_sWrite lk_sWrite_8 (hT_of e_sWrite fun l r h => by
    obtain ⟨h1, h⟩ := guard_val h
    obtain ⟨h2, h⟩ := guard_val h
    have key := t_sWrite (aI l 0) (aI l 1) (aI l 2) (aI l 3) (aI l 4) (aI l 5) (mm l 6) (of_pdec h1) h2
    have := val_ok h
    subst this
    unfold wrA
    cases hb : badW (aI l 1) (r_sLine_8 (aI l 2) (aI l 3) (aI l 4) (aI l 5)) with
    | true => rw [hb] at key; exact key
    | false => rw [hb] at key; exact key)

/-! ### Find -/

/-- A function of what two lines have. -/
def on16 {α : Type} (f : Int → Int → Int → Int → Int → Int → Int → Int → Int → Int → Int → Int → Int → Int → Int → Int → α) (m : Mem) : α :=
  f (m.ldW 0 0) (m.ldW 0 1) (m.ldW 0 2) (m.ldW 0 3) (m.ldW 0 4) (m.ldW 0 5) (m.ldW 0 6) (m.ldW 0 7) (m.ldW 1 0) (m.ldW 1 1) (m.ldW 1 2) (m.ldW 1 3) (m.ldW 1 4) (m.ldW 1 5) (m.ldW 1 6) (m.ldW 1 7)
def fdC (m : Mem) : Int := bif m.ldC 0 != 0 then m.ldC 0 else bif m.ldC 1 != 0 then m.ldC 1 else bif !(on16 r_sBest_5 m) then 20 else 0
def fdI (f : Int → Int → Int → Int → Int → Int → Int → Int → Int → Int → Int → Int → Int → Int → Int → Int → Int) (m : Mem) : Int := bif fdC m == 0 then on16 f m else 0

noncomputable def F2_sFind (l : List At) : Tr (List At) := .br 0 (on16 ok_sBest (mm l 0)) (.ok [.i (fdI r_sBest_0 (mm l 0)), .i (fdI r_sBest_1 (mm l 0)), .i (fdI r_sBest_2 (mm l 0)), .i (fdI r_sBest_3 (mm l 0)), .i (fdI r_sBest_4 (mm l 0)), .i (fdC (mm l 0))]) .no

theorem t_sFind (m : Mem) (h : on16 ok_sBest m = true) : (T_sFind m.off m.burns m.left m.steps m.n m.g m.h).sat fun r => AtsEq r [.i (fdI r_sBest_0 m), .i (fdI r_sBest_1 m), .i (fdI r_sBest_2 m), .i (fdI r_sBest_3 m), .i (fdI r_sBest_4 m), .i (fdC m)] := by
  unfold T_sFind
  refine brC (fun h1 => Tr.sat_ok.2 ?_) (fun h1 => brC (fun h2 => Tr.sat_ok.2 ?_) (fun h2 => brT h (brC (fun h3 => Tr.sat_ok.2 ?_) (fun h3 => Tr.sat_ok.2 ?_))))
  · have h1' : (m.ldC 0 != 0) = true := h1
    have e : fdC m = m.ldC 0 := by unfold fdC; rw [h1']; rfl
    have e0 : (fdC m == 0) = false := by rw [e]; simpa using h1'
    unfold fdI
    rw [e0, e]
    exact AtsEq.refl _
  · have h1' : (m.ldC 0 != 0) = false := h1
    have h2' : (m.ldC 1 != 0) = true := h2
    have e : fdC m = m.ldC 1 := by unfold fdC; rw [h1', h2']; rfl
    have e0 : (fdC m == 0) = false := by rw [e]; simpa using h2'
    unfold fdI
    rw [e0, e]
    exact AtsEq.refl _
  · have h1' : (m.ldC 0 != 0) = false := h1
    have h2' : (m.ldC 1 != 0) = false := h2
    have h3' : (!(on16 r_sBest_5 m)) = true := h3
    have e : fdC m = 20 := by unfold fdC; rw [h1', h2', h3']; rfl
    unfold fdI
    rw [e]
    exact AtsEq.refl _
  · have h1' : (m.ldC 0 != 0) = false := h1
    have h2' : (m.ldC 1 != 0) = false := h2
    have h3' : (!(on16 r_sBest_5 m)) = false := h3
    have e : fdC m = 0 := by unfold fdC; rw [h1', h2', h3']; rfl
    unfold fdI
    rw [e]
    exact AtsEq.refl _

theorem s2_sFind : SpecF Try.prog 23 (.read (locR ish_sFind osh_sFind F2_sFind)) :=
  spec_read (sy := y_sFind) (fuel := 100) (Lp := noLoops) o_R1 mixed ⟨Try.func23, by kernel_rfl, by kernel_rfl⟩ ish_sFind osh_sFind (by kernel_rfl) (noLoops_ok _) (hT_of e_sFind fun l r h => by
    obtain ⟨h1, h⟩ := guard_val h
    have := val_ok h
    subst this
    exact t_sFind (mm l 0) h1)
noncomputable def Γ_R2 : Specs := upd (upd Γ_sFind 22 (.eff (locF ish_sWrite osh_sWrite F2_sWrite))) 23 (.read (locR ish_sFind osh_sFind F2_sFind))
theorem o_R2 : SpecOK Try.prog Γ_R2 := SpecOK.upd (SpecOK.upd o_sFind s2_sWrite) s2_sFind
end Go.Proofs.Ytgmhggipaopoiaa.G
end

/-
  What functions of the seat compute, printed by a program from the explorer.
-/
section
namespace Go.Proofs.Ytgmhggipaopoiaa.G
open Go Go.AM Go.Proofs
/-! ### SuperBack -/

def ish_SuperBack : FSh := ⟨[.v true [.k (.n .i64), .k (.n .i64), .k (.n .i64), .k (.n .i64)]], []⟩
def osh_SuperBack : FSh := ⟨[.v false [.k .b]], []⟩
def T_SuperBack (x0 : Int) (x1 : Int) (x2 : Int) (x3 : Int) : Tr (List At) :=
 .br 0 (true)
 (.br 0 (ok_sLine x0 x1 x2 x3)
 (.br 15 (r_sLine_8 x0 x1 x2 x3 != (0 : Int))
 (.ok [(.b (r_sLine_0 x0 x1 x2 x3 == (0 : Int) && (r_sLine_1 x0 x1 x2 x3 == (0 : Int) && (r_sLine_2 x0 x1 x2 x3 == (0 : Int) && (r_sLine_3 x0 x1 x2 x3 == (0 : Int) && (r_sLine_4 x0 x1 x2 x3 == (0 : Int) && (r_sLine_5 x0 x1 x2 x3 == (0 : Int) && (r_sLine_6 x0 x1 x2 x3 == (0 : Int) && (r_sLine_7 x0 x1 x2 x3 == (0 : Int) && true)))))))))])
 (.br 0 (ok_sRead (r_sLine_0 x0 x1 x2 x3) (r_sLine_1 x0 x1 x2 x3) (r_sLine_2 x0 x1 x2 x3) (r_sLine_3 x0 x1 x2 x3) (r_sLine_4 x0 x1 x2 x3) (r_sLine_5 x0 x1 x2 x3) (r_sLine_6 x0 x1 x2 x3) (r_sLine_7 x0 x1 x2 x3))
 (.br 31 (r_sRead_4 (r_sLine_0 x0 x1 x2 x3) (r_sLine_1 x0 x1 x2 x3) (r_sLine_2 x0 x1 x2 x3) (r_sLine_3 x0 x1 x2 x3) (r_sLine_4 x0 x1 x2 x3) (r_sLine_5 x0 x1 x2 x3) (r_sLine_6 x0 x1 x2 x3) (r_sLine_7 x0 x1 x2 x3))
 (.br 36 (r_sRead_0 (r_sLine_0 x0 x1 x2 x3) (r_sLine_1 x0 x1 x2 x3) (r_sLine_2 x0 x1 x2 x3) (r_sLine_3 x0 x1 x2 x3) (r_sLine_4 x0 x1 x2 x3) (r_sLine_5 x0 x1 x2 x3) (r_sLine_6 x0 x1 x2 x3) (r_sLine_7 x0 x1 x2 x3) == x0 && (r_sRead_1 (r_sLine_0 x0 x1 x2 x3) (r_sLine_1 x0 x1 x2 x3) (r_sLine_2 x0 x1 x2 x3) (r_sLine_3 x0 x1 x2 x3) (r_sLine_4 x0 x1 x2 x3) (r_sLine_5 x0 x1 x2 x3) (r_sLine_6 x0 x1 x2 x3) (r_sLine_7 x0 x1 x2 x3) == x1 && (r_sRead_2 (r_sLine_0 x0 x1 x2 x3) (r_sLine_1 x0 x1 x2 x3) (r_sLine_2 x0 x1 x2 x3) (r_sLine_3 x0 x1 x2 x3) (r_sLine_4 x0 x1 x2 x3) (r_sLine_5 x0 x1 x2 x3) (r_sLine_6 x0 x1 x2 x3) (r_sLine_7 x0 x1 x2 x3) == x2 && (r_sRead_3 (r_sLine_0 x0 x1 x2 x3) (r_sLine_1 x0 x1 x2 x3) (r_sLine_2 x0 x1 x2 x3) (r_sLine_3 x0 x1 x2 x3) (r_sLine_4 x0 x1 x2 x3) (r_sLine_5 x0 x1 x2 x3) (r_sLine_6 x0 x1 x2 x3) (r_sLine_7 x0 x1 x2 x3) == x3 && true))))
 (.br 0 (ok_crcGood (r_sLine_0 x0 x1 x2 x3) (r_sLine_1 x0 x1 x2 x3) (r_sLine_2 x0 x1 x2 x3) (r_sLine_3 x0 x1 x2 x3) (r_sLine_4 x0 x1 x2 x3) (r_sLine_5 x0 x1 x2 x3) (r_sLine_6 x0 x1 x2 x3) (r_sLine_7 x0 x1 x2 x3))
 (.ok [(.b (r_crcGood_0 (r_sLine_0 x0 x1 x2 x3) (r_sLine_1 x0 x1 x2 x3) (r_sLine_2 x0 x1 x2 x3) (r_sLine_3 x0 x1 x2 x3) (r_sLine_4 x0 x1 x2 x3) (r_sLine_5 x0 x1 x2 x3) (r_sLine_6 x0 x1 x2 x3) (r_sLine_7 x0 x1 x2 x3)))])
 (.no))
 (.ok [(.b (false))]))
 (.ok [(.b (false))]))
 (.no)))
 (.no))
 (.no)
def y_SuperBack : Nat → Option Nat := syOf3 [15, 31, 36] [] []
def TL_SuperBack (l : List At) : Tr (List At) := T_SuperBack (aI l 0) (aI l 1) (aI l 2) (aI l 3)
theorem e_SuperBack (l : List At) : (call Try.prog Γ_shown y_SuperBack noLoops 100 Try.f5 (mkV ish_SuperBack l) (mkH ish_SuperBack l)).bind (leafO ish_SuperBack.hp.length ⟨[.v false [.k .b]], List.replicate ish_SuperBack.hp.length .no⟩) = TL_SuperBack l := by kernel_rfl

end Go.Proofs.Ytgmhggipaopoiaa.G
end

/-
  Sums and seals, in plain numbers.
-/
section
namespace Go.Proofs.Ytgmhggipaopoiaa.G
open Go Go.AM Go.Proofs

theorem crcMore_eq (x : Int) {n : Nat} (g : Nat → Nat → Int) (h : n < 9223372036854775807) : ok_crcMore x n g = true ∧ r_crcMore_0 x n g = sumBy crcStep x n (fun j => g j 0) := by
  have hc : (decide ((0 : Int) ≤ 0) && decide ((0 : Int) ≤ (n : Int)) && decide ((n : Int) = (n : Int)) && decide ((n : Int) < 9223372036854775807)) = true := by
    simp only [Bool.and_eq_true, decide_eq_true_eq]
    exact ⟨⟨⟨by omega, by omega⟩, trivial⟩, by omega⟩
  unfold ok_crcMore r_crcMore_0
  rw [hc]
  refine ⟨rfl, ?_⟩
  rw [cond_true, show ((n : Int) - 0).toNat = n by omega]
  rfl

theorem crcSum_eq {n : Nat} (g : Nat → Nat → Int) (h : n < 9223372036854775807) : ok_crcSum n g = true ∧ r_crcSum_0 n g = sumBy crcStep 0 n (fun j => g j 0) := by
  obtain ⟨h1, h2⟩ := crcMore_eq 0 (fun j cc => g (0 + j) cc) h
  unfold ok_crcSum r_crcSum_0
  rw [h1, h2]
  simp

theorem refReg_eq (x : Int) {n : Nat} (g : Nat → Nat → Int) (h : n < 9223372036854775807) : ok_refReg x n g = true ∧ r_refReg_0 x n g = crcFold refStep (fun j => g j 0) n 0 x := by
  have hc : (decide ((0 : Int) ≤ 0) && decide ((0 : Int) ≤ (n : Int)) && decide ((n : Int) < 9223372036854775807)) = true := by
    simp only [Bool.and_eq_true, decide_eq_true_eq]; omega
  unfold ok_refReg r_refReg_0
  rw [hc]
  refine ⟨rfl, ?_⟩
  rw [cond_true, show ((n : Int) - 0).toNat = n by omega]

theorem refSum_eq {n : Nat} (g : Nat → Nat → Int) (h : n < 9223372036854775807) : ok_refSum n g = true ∧ r_refSum_0 n g = sumBy refStep 0 n (fun j => g j 0) := by
  obtain ⟨h1, h2⟩ := refReg_eq 4294967295 (fun j cc => g (0 + j) cc) h
  unfold ok_refSum r_refSum_0
  rw [h1, h2]
  refine ⟨rfl, ?_⟩
  have e : bits BinOp.xor IntKind.u32 4294967295 0 = 4294967295 := by decide +kernel
  unfold sumBy
  rw [e]
  simp

/-! ### words as bytes -/

theorem wrap_byte {x : Int} {k : Int} (h0 : 0 ≤ x) (hk : 0 < k) : IntKind.wrap IntKind.u8 (Int.fdiv x k) = ((x.toNat / k.toNat % 256 : Nat) : Int) := by
  rw [wrap_u8_mod, Int.fdiv_eq_ediv_of_nonneg _ (by omega)]
  obtain ⟨n, rfl⟩ := Int.eq_ofNat_of_zero_le h0
  obtain ⟨m, rfl⟩ := Int.eq_ofNat_of_zero_le (show 0 ≤ k by omega)
  simp only [Int.toNat_natCast]
  rfl

/-- The byte 'j' of seven words. -/
def byteOf (w : Nat → Nat) (j : Nat) : Nat := w (j / 8) / 2 ^ (8 * (j % 8)) % 256

def words7 (x0 x1 x2 x3 x4 x5 x6 : Int) : Nat → Nat := fun i => ([x0, x1, x2, x3, x4, x5, x6].getD i 0).toNat

def sealRows (x0 x1 x2 x3 x4 x5 x6 : Int) : List (List Int) :=
  [[r_wordBytes_0 x0], [r_wordBytes_1 x0], [r_wordBytes_2 x0], [r_wordBytes_3 x0], [r_wordBytes_4 x0], [r_wordBytes_5 x0], [r_wordBytes_6 x0], [r_wordBytes_7 x0],
   [r_wordBytes_8 x1], [r_wordBytes_9 x1], [r_wordBytes_10 x1], [r_wordBytes_11 x1], [r_wordBytes_12 x1], [r_wordBytes_13 x1], [r_wordBytes_14 x1], [r_wordBytes_15 x1],
   [r_wordBytes_16 x2], [r_wordBytes_17 x2], [r_wordBytes_18 x2], [r_wordBytes_19 x2], [r_wordBytes_20 x2], [r_wordBytes_21 x2], [r_wordBytes_22 x2], [r_wordBytes_23 x2],
   [r_wordBytes_24 x3], [r_wordBytes_25 x3], [r_wordBytes_26 x3], [r_wordBytes_27 x3], [r_wordBytes_28 x3], [r_wordBytes_29 x3], [r_wordBytes_30 x3], [r_wordBytes_31 x3],
   [r_wordBytes_32 x4], [r_wordBytes_33 x4], [r_wordBytes_34 x4], [r_wordBytes_35 x4], [r_wordBytes_36 x4], [r_wordBytes_37 x4], [r_wordBytes_38 x4], [r_wordBytes_39 x4],
   [r_wordBytes_40 x5], [r_wordBytes_41 x5], [r_wordBytes_42 x5], [r_wordBytes_43 x5], [r_wordBytes_44 x5], [r_wordBytes_45 x5], [r_wordBytes_46 x5], [r_wordBytes_47 x5],
   [r_wordBytes_48 x6], [r_wordBytes_49 x6], [r_wordBytes_50 x6], [r_wordBytes_51 x6], [r_wordBytes_52 x6], [r_wordBytes_53 x6], [r_wordBytes_54 x6], [r_wordBytes_55 x6]]

theorem byte_at {x : Int} (h : 0 ≤ x) {w : Nat → Nat} {i : Nat} (hw : w i = x.toNat) (k : Nat) (hk : k < 8) (p : Int) (hp : p = ((2 ^ (8 * k) : Nat) : Int)) : IntKind.wrap IntKind.u8 (Int.fdiv x p) = ((byteOf w (8 * i + k) : Nat) : Int) := by
  subst hp
  rw [wrap_byte h (by have := Nat.two_pow_pos (8 * k); omega)]
  unfold byteOf
  rw [show (8 * i + k) / 8 = i by omega, show (8 * i + k) % 8 = k by omega, hw]
  rfl

theorem sealRows_byte {x0 x1 x2 x3 x4 x5 x6 : Int} (h0 : 0 ≤ x0) (h1 : 0 ≤ x1) (h2 : 0 ≤ x2) (h3 : 0 ≤ x3) (h4 : 0 ≤ x4) (h5 : 0 ≤ x5) (h6 : 0 ≤ x6) : ∀ j, j < 56 →
    rowsF (sealRows x0 x1 x2 x3 x4 x5 x6) j 0 = ((byteOf (words7 x0 x1 x2 x3 x4 x5 x6) j : Nat) : Int) := by
  intro j hj
  have d : j / 8 = 0 ∨ j / 8 = 1 ∨ j / 8 = 2 ∨ j / 8 = 3 ∨ j / 8 = 4 ∨ j / 8 = 5 ∨ j / 8 = 6 := by omega
  have m : j % 8 = 0 ∨ j % 8 = 1 ∨ j % 8 = 2 ∨ j % 8 = 3 ∨ j % 8 = 4 ∨ j % 8 = 5 ∨ j % 8 = 6 ∨ j % 8 = 7 := by omega
  rcases d with d | d | d | d | d | d | d
  all_goals
    rcases m with m | m | m | m | m | m | m | m
    all_goals
      have e : j = 8 * (j / 8) + j % 8 := by omega
      rw [d, m] at e
      subst e
      first
        | exact byte_at h0 (w := words7 x0 x1 x2 x3 x4 x5 x6) (i := 0) rfl _ (by omega) _ rfl
        | exact byte_at h1 (w := words7 x0 x1 x2 x3 x4 x5 x6) (i := 1) rfl _ (by omega) _ rfl
        | exact byte_at h2 (w := words7 x0 x1 x2 x3 x4 x5 x6) (i := 2) rfl _ (by omega) _ rfl
        | exact byte_at h3 (w := words7 x0 x1 x2 x3 x4 x5 x6) (i := 3) rfl _ (by omega) _ rfl
        | exact byte_at h4 (w := words7 x0 x1 x2 x3 x4 x5 x6) (i := 4) rfl _ (by omega) _ rfl
        | exact byte_at h5 (w := words7 x0 x1 x2 x3 x4 x5 x6) (i := 5) rfl _ (by omega) _ rfl
        | exact byte_at h6 (w := words7 x0 x1 x2 x3 x4 x5 x6) (i := 6) rfl _ (by omega) _ rfl

/-- The word that seals seven others. -/
def sealN (w : Nat → Nat) : Nat := 4294967296 + crcN 0 56 (byteOf w)

theorem byteOf_lt (w : Nat → Nat) (j : Nat) : byteOf w j < 256 := Nat.mod_lt _ (by decide)

theorem sealN_lt (w : Nat → Nat) : sealN w < 8589934592 := by
  have := crcN_lt (x := 0) (m := 56) (b := byteOf w) (fun j _ => byteOf_lt w j) (by decide)
  unfold sealN; omega

theorem or_mark {n : Nat} (h : n < 4294967296) : 4294967296 ||| n = 4294967296 + n := by
  have := Nat.two_pow_add_eq_or_of_lt (i := 32) (b := n) (by simpa using h) 1
  simpa using this.symm

theorem sum_seal {f : Int → Int} (hf : ∀ n : Nat, n < 4294967296 → f (n : Int) = stpN n) {x0 x1 x2 x3 x4 x5 x6 : Int} (h0 : 0 ≤ x0) (h1 : 0 ≤ x1) (h2 : 0 ≤ x2) (h3 : 0 ≤ x3) (h4 : 0 ≤ x4) (h5 : 0 ≤ x5) (h6 : 0 ≤ x6) :
    sumBy f 0 56 (fun j => rowsF (sealRows x0 x1 x2 x3 x4 x5 x6) j 0) = (crcN 0 56 (byteOf (words7 x0 x1 x2 x3 x4 x5 x6)) : Nat) := by
  have hb := sealRows_byte h0 h1 h2 h3 h4 h5 h6
  have hB : IsBytes 56 (fun j => rowsF (sealRows x0 x1 x2 x3 x4 x5 x6) j 0) := fun j hj => by
    show 0 ≤ rowsF (sealRows x0 x1 x2 x3 x4 x5 x6) j 0 ∧ rowsF (sealRows x0 x1 x2 x3 x4 x5 x6) j 0 < 256
    rw [hb j hj]
    have := byteOf_lt (words7 x0 x1 x2 x3 x4 x5 x6) j
    omega
  have := sumBy_nat hf hB (x := 0) (by decide)
  rw [show ((0 : Nat) : Int) = 0 from rfl] at this
  rw [this]
  congr 1
  exact crcN_congr fun j hj => by
    show (rowsF (sealRows x0 x1 x2 x3 x4 x5 x6) j 0).toNat = _
    rw [hb j hj]; rfl

theorem sum_ok (x0 x1 x2 x3 x4 x5 x6 : Int) : ok_crcSum 56 (rowsF (sealRows x0 x1 x2 x3 x4 x5 x6)) = true := (crcSum_eq (rowsF (sealRows x0 x1 x2 x3 x4 x5 x6)) (by decide)).1

theorem ok_seal (x0 x1 x2 x3 x4 x5 x6 x7 : Int) : ok_crcSeal x0 x1 x2 x3 x4 x5 x6 x7 = true := by
  show (bif ok_crcSum 56 (rowsF (sealRows x0 x1 x2 x3 x4 x5 x6)) then true else false) = true
  rw [sum_ok]; rfl
theorem seal_0 (x0 x1 x2 x3 x4 x5 x6 : Int) : r_crcSeal_0 x0 x1 x2 x3 x4 x5 x6 = x0 := by
  show (bif ok_crcSum 56 (rowsF (sealRows x0 x1 x2 x3 x4 x5 x6)) then x0 else 0) = x0
  rw [sum_ok]; rfl
theorem seal_1 (x0 x1 x2 x3 x4 x5 x6 : Int) : r_crcSeal_1 x0 x1 x2 x3 x4 x5 x6 = x1 := by
  show (bif ok_crcSum 56 (rowsF (sealRows x0 x1 x2 x3 x4 x5 x6)) then x1 else 0) = x1
  rw [sum_ok]; rfl
theorem seal_2 (x0 x1 x2 x3 x4 x5 x6 : Int) : r_crcSeal_2 x0 x1 x2 x3 x4 x5 x6 = x2 := by
  show (bif ok_crcSum 56 (rowsF (sealRows x0 x1 x2 x3 x4 x5 x6)) then x2 else 0) = x2
  rw [sum_ok]; rfl
theorem seal_3 (x0 x1 x2 x3 x4 x5 x6 : Int) : r_crcSeal_3 x0 x1 x2 x3 x4 x5 x6 = x3 := by
  show (bif ok_crcSum 56 (rowsF (sealRows x0 x1 x2 x3 x4 x5 x6)) then x3 else 0) = x3
  rw [sum_ok]; rfl
theorem seal_4 (x0 x1 x2 x3 x4 x5 x6 : Int) : r_crcSeal_4 x0 x1 x2 x3 x4 x5 x6 = x4 := by
  show (bif ok_crcSum 56 (rowsF (sealRows x0 x1 x2 x3 x4 x5 x6)) then x4 else 0) = x4
  rw [sum_ok]; rfl
theorem seal_5 (x0 x1 x2 x3 x4 x5 x6 : Int) : r_crcSeal_5 x0 x1 x2 x3 x4 x5 x6 = x5 := by
  show (bif ok_crcSum 56 (rowsF (sealRows x0 x1 x2 x3 x4 x5 x6)) then x5 else 0) = x5
  rw [sum_ok]; rfl
theorem seal_6 (x0 x1 x2 x3 x4 x5 x6 : Int) : r_crcSeal_6 x0 x1 x2 x3 x4 x5 x6 = x6 := by
  show (bif ok_crcSum 56 (rowsF (sealRows x0 x1 x2 x3 x4 x5 x6)) then x6 else 0) = x6
  rw [sum_ok]; rfl
theorem seal_7 {x0 x1 x2 x3 x4 x5 x6 : Int} (h0 : 0 ≤ x0) (h1 : 0 ≤ x1) (h2 : 0 ≤ x2) (h3 : 0 ≤ x3) (h4 : 0 ≤ x4) (h5 : 0 ≤ x5) (h6 : 0 ≤ x6) : r_crcSeal_7 x0 x1 x2 x3 x4 x5 x6 = (sealN (words7 x0 x1 x2 x3 x4 x5 x6) : Nat) := by
  show (bif ok_crcSum 56 (rowsF (sealRows x0 x1 x2 x3 x4 x5 x6)) then bits BinOp.or IntKind.u64 4294967296 (IntKind.wrap IntKind.u64 (r_crcSum_0 56 (rowsF (sealRows x0 x1 x2 x3 x4 x5 x6)))) else 0) = _
  rw [sum_ok, cond_true, (crcSum_eq (rowsF (sealRows x0 x1 x2 x3 x4 x5 x6)) (by decide)).2, sum_seal (fun _ h => crcStep_nat h) h0 h1 h2 h3 h4 h5 h6]
  have := crcN_lt (x := 0) (m := 56) (b := byteOf (words7 x0 x1 x2 x3 x4 x5 x6)) (fun j _ => byteOf_lt _ j) (by decide)
  rw [wrap_u64 (by omega) (by omega)]
  have e := u64_or_nat 4294967296 (crcN 0 56 (byteOf (words7 x0 x1 x2 x3 x4 x5 x6))) (by decide) (by omega)
  rw [or_mark this] at e
  exact e

theorem good_ok (x0 x1 x2 x3 x4 x5 x6 x7 : Int) : ok_crcGood x0 x1 x2 x3 x4 x5 x6 x7 = true := by
  show (bif ok_crcSeal x0 x1 x2 x3 x4 x5 x6 x7 then true else false) = true
  rw [ok_seal]; rfl

theorem good_eq {x0 x1 x2 x3 x4 x5 x6 : Int} (x7 : Int) (h0 : 0 ≤ x0) (h1 : 0 ≤ x1) (h2 : 0 ≤ x2) (h3 : 0 ≤ x3) (h4 : 0 ≤ x4) (h5 : 0 ≤ x5) (h6 : 0 ≤ x6) : r_crcGood_0 x0 x1 x2 x3 x4 x5 x6 x7 = (x7 == ((sealN (words7 x0 x1 x2 x3 x4 x5 x6) : Nat) : Int)) := by
  unfold r_crcGood_0
  rw [ok_seal, seal_0, seal_1, seal_2, seal_3, seal_4, seal_5, seal_6, seal_7 h0 h1 h2 h3 h4 h5 h6]
  simp

/-! ### as the document says -/

theorem rsum_ok (x0 x1 x2 x3 x4 x5 x6 : Int) : ok_refSum 56 (rowsF (sealRows x0 x1 x2 x3 x4 x5 x6)) = true := (refSum_eq (rowsF (sealRows x0 x1 x2 x3 x4 x5 x6)) (by decide)).1

theorem ok_rseal (x0 x1 x2 x3 x4 x5 x6 x7 : Int) : ok_refSeal x0 x1 x2 x3 x4 x5 x6 x7 = true := by
  show (bif ok_refSum 56 (rowsF (sealRows x0 x1 x2 x3 x4 x5 x6)) then true else false) = true
  rw [rsum_ok]; rfl
theorem rseal_0 (x0 x1 x2 x3 x4 x5 x6 : Int) : r_refSeal_0 x0 x1 x2 x3 x4 x5 x6 = x0 := by
  show (bif ok_refSum 56 (rowsF (sealRows x0 x1 x2 x3 x4 x5 x6)) then x0 else 0) = x0
  rw [rsum_ok]; rfl
theorem rseal_1 (x0 x1 x2 x3 x4 x5 x6 : Int) : r_refSeal_1 x0 x1 x2 x3 x4 x5 x6 = x1 := by
  show (bif ok_refSum 56 (rowsF (sealRows x0 x1 x2 x3 x4 x5 x6)) then x1 else 0) = x1
  rw [rsum_ok]; rfl
theorem rseal_2 (x0 x1 x2 x3 x4 x5 x6 : Int) : r_refSeal_2 x0 x1 x2 x3 x4 x5 x6 = x2 := by
  show (bif ok_refSum 56 (rowsF (sealRows x0 x1 x2 x3 x4 x5 x6)) then x2 else 0) = x2
  rw [rsum_ok]; rfl
theorem rseal_3 (x0 x1 x2 x3 x4 x5 x6 : Int) : r_refSeal_3 x0 x1 x2 x3 x4 x5 x6 = x3 := by
  show (bif ok_refSum 56 (rowsF (sealRows x0 x1 x2 x3 x4 x5 x6)) then x3 else 0) = x3
  rw [rsum_ok]; rfl
theorem rseal_4 (x0 x1 x2 x3 x4 x5 x6 : Int) : r_refSeal_4 x0 x1 x2 x3 x4 x5 x6 = x4 := by
  show (bif ok_refSum 56 (rowsF (sealRows x0 x1 x2 x3 x4 x5 x6)) then x4 else 0) = x4
  rw [rsum_ok]; rfl
theorem rseal_5 (x0 x1 x2 x3 x4 x5 x6 : Int) : r_refSeal_5 x0 x1 x2 x3 x4 x5 x6 = x5 := by
  show (bif ok_refSum 56 (rowsF (sealRows x0 x1 x2 x3 x4 x5 x6)) then x5 else 0) = x5
  rw [rsum_ok]; rfl
theorem rseal_6 (x0 x1 x2 x3 x4 x5 x6 : Int) : r_refSeal_6 x0 x1 x2 x3 x4 x5 x6 = x6 := by
  show (bif ok_refSum 56 (rowsF (sealRows x0 x1 x2 x3 x4 x5 x6)) then x6 else 0) = x6
  rw [rsum_ok]; rfl
theorem rseal_7 {x0 x1 x2 x3 x4 x5 x6 : Int} (h0 : 0 ≤ x0) (h1 : 0 ≤ x1) (h2 : 0 ≤ x2) (h3 : 0 ≤ x3) (h4 : 0 ≤ x4) (h5 : 0 ≤ x5) (h6 : 0 ≤ x6) : r_refSeal_7 x0 x1 x2 x3 x4 x5 x6 = (sealN (words7 x0 x1 x2 x3 x4 x5 x6) : Nat) := by
  show (bif ok_refSum 56 (rowsF (sealRows x0 x1 x2 x3 x4 x5 x6)) then bits BinOp.or IntKind.u64 (IntKind.wrap IntKind.u64 (r_refSum_0 56 (rowsF (sealRows x0 x1 x2 x3 x4 x5 x6)))) 4294967296 else 0) = _
  rw [rsum_ok, cond_true, (refSum_eq (rowsF (sealRows x0 x1 x2 x3 x4 x5 x6)) (by decide)).2, sum_seal (fun _ h => refStep_nat h) h0 h1 h2 h3 h4 h5 h6]
  have := crcN_lt (x := 0) (m := 56) (b := byteOf (words7 x0 x1 x2 x3 x4 x5 x6)) (fun j _ => byteOf_lt _ j) (by decide)
  rw [wrap_u64 (by omega) (by omega)]
  have e := u64_or_nat (crcN 0 56 (byteOf (words7 x0 x1 x2 x3 x4 x5 x6))) 4294967296 (by omega) (by decide)
  rw [Nat.or_comm, or_mark this] at e
  exact e
end Go.Proofs.Ytgmhggipaopoiaa.G
end

/-
  What the laws of super blocks lean on.
-/
section
namespace Go.Proofs.Ytgmhggipaopoiaa.G
open Go Go.AM Go.Proofs

theorem within_eq (x a b : Int) : r_within__0 x a b = decide (a ≤ x ∧ x ≤ b) := by
  unfold r_within__0
  rw [Bool.eq_iff_iff]
  by_cases h : x ≥ a
  · simp [h]
  · simp [h]

def sb (x0 x1 x2 x3 : Int) : Bool := decide (1 ≤ x0 ∧ x0 ≤ 1099511627776 ∧ 0 ≤ x1 ∧ x1 ≤ 1023 ∧ 0 ≤ x2 ∧ x2 ≤ 1099511627776 ∧ 1 ≤ x3 ∧ x3 ≤ 8)

theorem chain4 {α : Type} (a b c d : Bool) (z v y : α) : (bif !a then z else bif !b then z else bif !c then z else bif !d then z else bif true then v else y) = bif (a && (b && (c && d))) then v else z := by
  cases a <;> cases b <;> cases c <;> cases d <;> rfl

theorem chain8 {α : Type} (a b c d e f g h : Bool) (z v y : α) : (bif a then z else bif b then z else bif c then z else bif d then z else bif e then z else bif f then z else bif g then z else bif h then z else bif true then v else y)
    = bif (!a && (!b && (!c && (!d && (!e && (!f && (!g && !h))))))) then v else z := by
  cases a <;> cases b <;> cases c <;> cases d <;> cases e <;> cases f <;> cases g <;> cases h <;> rfl

theorem sb_s (x0 x1 x2 x3 : Int) : (r_within__0 x0 1 1099511627776 && (r_within__0 x1 0 1023 && (r_within__0 x2 0 1099511627776 && r_within__0 x3 1 8))) = sb x0 x1 x2 x3 := by
  simp only [within_eq, sb]
  rw [Bool.eq_iff_iff]
  simp only [Bool.and_eq_true, decide_eq_true_eq]
  omega

theorem sb_r (x0 x1 x2 x3 : Int) : (!decide (x0 < 1) && (!decide (x0 > 1099511627776) && (!decide (x1 < 0) && (!decide (x1 ≥ 1024) && (!decide (x2 < 0) && (!decide (x2 > 1099511627776) && (!decide (x3 < 1) && !decide (x3 > 8)))))))) = sb x0 x1 x2 x3 := by
  simp only [sb]
  rw [Bool.eq_iff_iff]
  simp only [Bool.and_eq_true, Bool.not_eq_true', decide_eq_true_eq, decide_eq_false_iff_not]
  omega

theorem wu (x : Int) : 0 ≤ IntKind.wrap IntKind.u64 x := by
  rw [wrap_u64_mod]; omega

def sealS (x0 x1 x2 x3 : Int) : Nat := sealN (words7 1526644958 (IntKind.wrap IntKind.u64 x0) (IntKind.wrap IntKind.u64 x1) (IntKind.wrap IntKind.u64 x2) (IntKind.wrap IntKind.u64 x3) 0 0)

theorem s0 (x0 x1 x2 x3 : Int) : r_sLine_0 x0 x1 x2 x3 = bif sb x0 x1 x2 x3 then 1526644958 else 0 := by
  unfold r_sLine_0
  rw [ok_seal, chain4, sb_s, seal_0]
theorem t0 (x0 x1 x2 x3 : Int) : r_rLine_0 x0 x1 x2 x3 = r_sLine_0 x0 x1 x2 x3 := by
  rw [s0]
  unfold r_rLine_0
  rw [ok_rseal, chain8, sb_r, rseal_0]

theorem s1 (x0 x1 x2 x3 : Int) : r_sLine_1 x0 x1 x2 x3 = bif sb x0 x1 x2 x3 then IntKind.wrap IntKind.u64 x0 else 0 := by
  unfold r_sLine_1
  rw [ok_seal, chain4, sb_s, seal_1]
theorem t1 (x0 x1 x2 x3 : Int) : r_rLine_1 x0 x1 x2 x3 = r_sLine_1 x0 x1 x2 x3 := by
  rw [s1]
  unfold r_rLine_1
  rw [ok_rseal, chain8, sb_r, rseal_1]

theorem s2 (x0 x1 x2 x3 : Int) : r_sLine_2 x0 x1 x2 x3 = bif sb x0 x1 x2 x3 then IntKind.wrap IntKind.u64 x1 else 0 := by
  unfold r_sLine_2
  rw [ok_seal, chain4, sb_s, seal_2]
theorem t2 (x0 x1 x2 x3 : Int) : r_rLine_2 x0 x1 x2 x3 = r_sLine_2 x0 x1 x2 x3 := by
  rw [s2]
  unfold r_rLine_2
  rw [ok_rseal, chain8, sb_r, rseal_2]

theorem s3 (x0 x1 x2 x3 : Int) : r_sLine_3 x0 x1 x2 x3 = bif sb x0 x1 x2 x3 then IntKind.wrap IntKind.u64 x2 else 0 := by
  unfold r_sLine_3
  rw [ok_seal, chain4, sb_s, seal_3]
theorem t3 (x0 x1 x2 x3 : Int) : r_rLine_3 x0 x1 x2 x3 = r_sLine_3 x0 x1 x2 x3 := by
  rw [s3]
  unfold r_rLine_3
  rw [ok_rseal, chain8, sb_r, rseal_3]

theorem s4 (x0 x1 x2 x3 : Int) : r_sLine_4 x0 x1 x2 x3 = bif sb x0 x1 x2 x3 then IntKind.wrap IntKind.u64 x3 else 0 := by
  unfold r_sLine_4
  rw [ok_seal, chain4, sb_s, seal_4]
theorem t4 (x0 x1 x2 x3 : Int) : r_rLine_4 x0 x1 x2 x3 = r_sLine_4 x0 x1 x2 x3 := by
  rw [s4]
  unfold r_rLine_4
  rw [ok_rseal, chain8, sb_r, rseal_4]

theorem s5 (x0 x1 x2 x3 : Int) : r_sLine_5 x0 x1 x2 x3 = bif sb x0 x1 x2 x3 then 0 else 0 := by
  unfold r_sLine_5
  rw [ok_seal, chain4, sb_s, seal_5]
theorem t5 (x0 x1 x2 x3 : Int) : r_rLine_5 x0 x1 x2 x3 = r_sLine_5 x0 x1 x2 x3 := by
  rw [s5]
  unfold r_rLine_5
  rw [ok_rseal, chain8, sb_r, rseal_5]

theorem s6 (x0 x1 x2 x3 : Int) : r_sLine_6 x0 x1 x2 x3 = bif sb x0 x1 x2 x3 then 0 else 0 := by
  unfold r_sLine_6
  rw [ok_seal, chain4, sb_s, seal_6]
theorem t6 (x0 x1 x2 x3 : Int) : r_rLine_6 x0 x1 x2 x3 = r_sLine_6 x0 x1 x2 x3 := by
  rw [s6]
  unfold r_rLine_6
  rw [ok_rseal, chain8, sb_r, rseal_6]

theorem s7 (x0 x1 x2 x3 : Int) : r_sLine_7 x0 x1 x2 x3 = bif sb x0 x1 x2 x3 then (sealS x0 x1 x2 x3 : Int) else 0 := by
  unfold r_sLine_7
  rw [ok_seal, chain4, sb_s, (seal_7 (by decide) (wu x0) (wu x1) (wu x2) (wu x3) (by decide) (by decide))]
  rfl
theorem t7 (x0 x1 x2 x3 : Int) : r_rLine_7 x0 x1 x2 x3 = r_sLine_7 x0 x1 x2 x3 := by
  rw [s7]
  unfold r_rLine_7
  rw [ok_rseal, chain8, sb_r, (rseal_7 (by decide) (wu x0) (wu x1) (wu x2) (wu x3) (by decide) (by decide))]
  rfl

theorem s8 (x0 x1 x2 x3 : Int) : r_sLine_8 x0 x1 x2 x3 = bif sb x0 x1 x2 x3 then 0 else 1 := by
  unfold r_sLine_8
  rw [ok_seal, chain4, sb_s]
theorem t8 (x0 x1 x2 x3 : Int) : r_rLine_8 x0 x1 x2 x3 = r_sLine_8 x0 x1 x2 x3 := by
  rw [s8]
  unfold r_rLine_8
  rw [ok_rseal, chain8, sb_r]
theorem sk (x0 x1 x2 x3 : Int) : ok_sLine x0 x1 x2 x3 = true := by
  unfold ok_sLine
  rw [ok_seal, chain4]
  cases (r_within__0 x0 1 1099511627776 && (r_within__0 x1 0 1023 && (r_within__0 x2 0 1099511627776 && r_within__0 x3 1 8))) <;> rfl
theorem tk (x0 x1 x2 x3 : Int) : ok_rLine x0 x1 x2 x3 = true := by
  unfold ok_rLine
  rw [ok_rseal, chain8, sb_r]
  cases sb x0 x1 x2 x3 <;> rfl

section
variable (x0 x1 x2 x3 x4 x5 x6 x7 : Int)
theorem rk : ok_sRead x0 x1 x2 x3 x4 x5 x6 x7 = true := by
  unfold ok_sRead
  simp only [sk, cond_true]
  generalize (r_sLine_8 _ _ _ _ != 0) = a
  cases a
  · generalize (!(_ && _)) = b
    cases b <;> rfl
  · rfl
theorem uk : ok_rRead x0 x1 x2 x3 x4 x5 x6 x7 = true := by
  have h := rk x0 x1 x2 x3 x4 x5 x6 x7
  unfold ok_sRead at h
  unfold ok_rRead
  simp only [t0, t1, t2, t3, t4, t5, t6, t7, t8, tk, sk] at h ⊢
  exact h

theorem u0 : r_rRead_0 x0 x1 x2 x3 x4 x5 x6 x7 = r_sRead_0 x0 x1 x2 x3 x4 x5 x6 x7 := by
  unfold r_rRead_0 r_sRead_0
  simp only [t0, t1, t2, t3, t4, t5, t6, t7, t8, tk, sk]

theorem u1 : r_rRead_1 x0 x1 x2 x3 x4 x5 x6 x7 = r_sRead_1 x0 x1 x2 x3 x4 x5 x6 x7 := by
  unfold r_rRead_1 r_sRead_1
  simp only [t0, t1, t2, t3, t4, t5, t6, t7, t8, tk, sk]

theorem u2 : r_rRead_2 x0 x1 x2 x3 x4 x5 x6 x7 = r_sRead_2 x0 x1 x2 x3 x4 x5 x6 x7 := by
  unfold r_rRead_2 r_sRead_2
  simp only [t0, t1, t2, t3, t4, t5, t6, t7, t8, tk, sk]

theorem u3 : r_rRead_3 x0 x1 x2 x3 x4 x5 x6 x7 = r_sRead_3 x0 x1 x2 x3 x4 x5 x6 x7 := by
  unfold r_rRead_3 r_sRead_3
  simp only [t0, t1, t2, t3, t4, t5, t6, t7, t8, tk, sk]

theorem u4 : r_rRead_4 x0 x1 x2 x3 x4 x5 x6 x7 = r_sRead_4 x0 x1 x2 x3 x4 x5 x6 x7 := by
  unfold r_rRead_4 r_sRead_4
  simp only [t0, t1, t2, t3, t4, t5, t6, t7, t8, tk, sk]

end
end Go.Proofs.Ytgmhggipaopoiaa.G
end

/-
  The plain law of SuperBack.
-/
section
namespace Go.Proofs.Ytgmhggipaopoiaa.G
open Go Go.AM Go.Proofs

theorem read_line {x0 x1 x2 x3 : Int} (hs : sb x0 x1 x2 x3 = true) :
    r_sRead_4 (r_sLine_0 x0 x1 x2 x3) (r_sLine_1 x0 x1 x2 x3) (r_sLine_2 x0 x1 x2 x3) (r_sLine_3 x0 x1 x2 x3) (r_sLine_4 x0 x1 x2 x3) (r_sLine_5 x0 x1 x2 x3) (r_sLine_6 x0 x1 x2 x3) (r_sLine_7 x0 x1 x2 x3) = true ∧ r_sRead_0 (r_sLine_0 x0 x1 x2 x3) (r_sLine_1 x0 x1 x2 x3) (r_sLine_2 x0 x1 x2 x3) (r_sLine_3 x0 x1 x2 x3) (r_sLine_4 x0 x1 x2 x3) (r_sLine_5 x0 x1 x2 x3) (r_sLine_6 x0 x1 x2 x3) (r_sLine_7 x0 x1 x2 x3) = x0 ∧ r_sRead_1 (r_sLine_0 x0 x1 x2 x3) (r_sLine_1 x0 x1 x2 x3) (r_sLine_2 x0 x1 x2 x3) (r_sLine_3 x0 x1 x2 x3) (r_sLine_4 x0 x1 x2 x3) (r_sLine_5 x0 x1 x2 x3) (r_sLine_6 x0 x1 x2 x3) (r_sLine_7 x0 x1 x2 x3) = x1 ∧ r_sRead_2 (r_sLine_0 x0 x1 x2 x3) (r_sLine_1 x0 x1 x2 x3) (r_sLine_2 x0 x1 x2 x3) (r_sLine_3 x0 x1 x2 x3) (r_sLine_4 x0 x1 x2 x3) (r_sLine_5 x0 x1 x2 x3) (r_sLine_6 x0 x1 x2 x3) (r_sLine_7 x0 x1 x2 x3) = x2 ∧ r_sRead_3 (r_sLine_0 x0 x1 x2 x3) (r_sLine_1 x0 x1 x2 x3) (r_sLine_2 x0 x1 x2 x3) (r_sLine_3 x0 x1 x2 x3) (r_sLine_4 x0 x1 x2 x3) (r_sLine_5 x0 x1 x2 x3) (r_sLine_6 x0 x1 x2 x3) (r_sLine_7 x0 x1 x2 x3) = x3 := by
  have hr := hs
  simp only [sb, decide_eq_true_eq] at hr
  have k0 : IntKind.wrap IntKind.i64 (r_sLine_1 x0 x1 x2 x3) = x0 := by
    rw [s1, hs, cond_true, wrap_u64 (by omega) (by omega), wrap_i64 (by omega) (by omega)]
  have k1 : IntKind.wrap IntKind.i64 (r_sLine_2 x0 x1 x2 x3) = x1 := by
    rw [s2, hs, cond_true, wrap_u64 (by omega) (by omega), wrap_i64 (by omega) (by omega)]
  have k2 : IntKind.wrap IntKind.i64 (r_sLine_3 x0 x1 x2 x3) = x2 := by
    rw [s3, hs, cond_true, wrap_u64 (by omega) (by omega), wrap_i64 (by omega) (by omega)]
  have k3 : IntKind.wrap IntKind.i64 (r_sLine_4 x0 x1 x2 x3) = x3 := by
    rw [s4, hs, cond_true, wrap_u64 (by omega) (by omega), wrap_i64 (by omega) (by omega)]
  have e8 : r_sLine_8 x0 x1 x2 x3 = 0 := by rw [s8, hs]; rfl
  simp only [r_sRead_0, r_sRead_1, r_sRead_2, r_sRead_3, r_sRead_4, k0, k1, k2, k3, sk, e8, beq_self_eq_true, cond_true]
  simp

theorem vc_SuperBack (x0 x1 x2 x3 : Int) (_ : IntKind.min .i64 ≤ x0) (_ : x0 ≤ IntKind.max .i64) (_ : IntKind.min .i64 ≤ x1) (_ : x1 ≤ IntKind.max .i64) (_ : IntKind.min .i64 ≤ x2) (_ : x2 ≤ IntKind.max .i64) (_ : IntKind.min .i64 ≤ x3) (_ : x3 ≤ IntKind.max .i64) :
    (T_SuperBack x0 x1 x2 x3).sat fun r => r = [.b true] := by
  cases hs : sb x0 x1 x2 x3 with
  | false =>
    simp only [T_SuperBack, Tr.sat_br, Tr.sat_ok, Tr.sat_no, sk, s0, s1, s2, s3, s4, s5, s6, s7, s8, hs, cond_false]
    simp
  | true =>
    obtain ⟨q4, q0, q1, q2, q3⟩ := read_line hs
    have e8 : r_sLine_8 x0 x1 x2 x3 = 0 := by rw [s8, hs]; rfl
    have hg : r_crcGood_0 (r_sLine_0 x0 x1 x2 x3) (r_sLine_1 x0 x1 x2 x3) (r_sLine_2 x0 x1 x2 x3) (r_sLine_3 x0 x1 x2 x3) (r_sLine_4 x0 x1 x2 x3) (r_sLine_5 x0 x1 x2 x3) (r_sLine_6 x0 x1 x2 x3) (r_sLine_7 x0 x1 x2 x3) = true := by
      simp only [s0, s1, s2, s3, s4, s5, s6, s7, hs, cond_true]
      rw [good_eq _ (by decide) (wu x0) (wu x1) (wu x2) (wu x3) (by decide) (by decide)]
      simp [sealS]
    simp only [T_SuperBack, Tr.sat_br, Tr.sat_ok, Tr.sat_no, sk, rk, good_ok, e8, q0, q1, q2, q3, q4, hg, beq_self_eq_true]
    simp
end Go.Proofs.Ytgmhggipaopoiaa.G
end

/-
  Write with the power on: the line is there, sure.
-/
section
namespace Go.Proofs.Ytgmhggipaopoiaa.G
open Go Go.AM Go.Proofs

/-- The line 's' with 'k' words stored; the other lines as in 'M0'. -/
structure WrInv (M0 : Mem) (s : Nat) (w : Nat → Int) (i : Nat) (K : Int) (M : Mem) : Prop where
  on : M.on
  n : M.n = 64
  ok : M.Ok K
  coh : Coh (M.g s) (M.h s)
  now : ∀ c, c < i → M.g s c = w c
  other : ∀ j, j ≠ s → M.g j = M0.g j ∧ M.h j = M0.h j

theorem wr_step {M0 M : Mem} {s i : Nat} {w : Nat → Int} {K : Int} (h : WrInv M0 s w i K M) (hs : s < 64) (hi : i < 8) (hK : K < 1000000) : WrInv M0 s w (i + 1) (K + 1) (M.stM (s : Int) (i : Int) (w i)) := by
  have hb : M.bad (s : Int) (i : Int) = false := bad_of ⟨by omega, by rw [h.n]; omega, by omega, by omega⟩
  have e := stM_on (v := w i) h.on hb
  have es : (s : Int).toNat = s := Int.toNat_natCast s
  have ei : (i : Int).toNat = i := Int.toNat_natCast i
  have eg : (M.stM (s : Int) (i : Int) (w i)).g = updR M.g s (stR (M.g s) i (w i)) := by rw [e, es, ei]; rfl
  have eh : (M.stM (s : Int) (i : Int) (w i)).h = updR M.h s (stH (M.h s) (M.g s 16).toNat (i : Int) (w i)) := by rw [e, es]; rfl
  refine ⟨stM_on' h.on, by rw [stM_n]; exact h.n, stM_ok h.ok hK, ?_, fun c hc => ?_, fun j hj => ?_⟩
  · rw [eg, eh, updR_self, updR_self]
    have := coh_st (w := (i : Int)) (v := w i) h.coh (h.ok.2.2.2.2 s (by rw [h.n]; exact hs)).1.1 ⟨by omega, by omega⟩
    rw [ei] at this
    exact this
  · rw [eg, updR_self]
    unfold stR
    rw [if_neg (by omega)]
    by_cases hci : c = i
    · rw [if_pos hci, hci]
    · rw [if_neg hci]; exact h.now c (by omega)
  · rw [eg, eh, updR_ne hj, updR_ne hj]
    exact h.other j hj

theorem wr_all {M0 : Mem} {s : Nat} {w : Nat → Int} (hs : s < 64) : ∀ (k i : Nat) (M : Mem) (K : Int), WrInv M0 s w i K M → i + k = 8 → K + k ≤ 900000 → (stL w (s : Int) k i M).2 = 0 ∧ WrInv M0 s w 8 (K + k) (stL w (s : Int) k i M).1
  | 0, i, M, K, h, hik, _ => by
    obtain rfl : i = 8 := by omega
    exact ⟨rfl, by show WrInv M0 s w 8 (K + (0 : Nat)) M; rw [show K + ((0 : Nat) : Int) = K by omega]; exact h⟩
  | k + 1, i, M, K, h, hik, hK => by
    have hb : M.bad (s : Int) (i : Int) = false := bad_of ⟨by omega, by rw [h.n]; omega, by omega, by omega⟩
    rw [stL, if_pos (stC_on h.on hb)]
    have := wr_all hs k (i + 1) _ (K + 1) (wr_step h hs (by omega) (by omega)) (by omega) (by omega)
    rw [show K + ((k + 1 : Nat) : Int) = K + 1 + k by omega]
    exact this

theorem feM_idle {m : Mem} {c : Int} {j : Nat} (hr : RowOk (m.g j) (m.h j)) (h : m.g j 16 = 0) : (m.feM c).g j = m.g j ∧ (m.feM c).h j = m.h j := by
  unfold Mem.feM
  cases hb : corB c with
  | true => exact ⟨rfl, rfl⟩
  | false => cases m.po with
    | true => exact ⟨rfl, rfl⟩
    | false =>
      have hc := corB_no hb
      have := hr.2.2.1 (17 + c.toNat) (by omega) (by omega)
      show feG m.n m.g m.h (17 + c.toNat) 0 j = _ ∧ feH m.n m.g m.h (17 + c.toNat) 0 j = _
      unfold feG feH
      rw [if_neg (fun hh => by omega), if_neg (fun hh => by omega)]
      exact ⟨rfl, rfl⟩

theorem wrM_law {M0 : Mem} {s : Nat} {core K : Int} {w : Nat → Int} (hon : M0.on) (hn : M0.n = 64) (hok : M0.Ok K) (hK : K ≤ 800000) (hcoh : Coh (M0.g s) (M0.h s)) (hs : s < 8) (hcore : 0 ≤ core ∧ core < 8) (hcnt : ∀ j, j < 64 → M0.g j 16 = 0) :
    (wrM w M0 core (s : Int)).2 = 0 ∧ (wrM w M0 core (s : Int)).1.on ∧ (wrM w M0 core (s : Int)).1.n = 64 ∧ (wrM w M0 core (s : Int)).1.Ok (K + 11) ∧ (wrM w M0 core (s : Int)).1.g s 16 = 0 ∧
      Coh ((wrM w M0 core (s : Int)).1.g s) ((wrM w M0 core (s : Int)).1.h s) ∧ (∀ c, c < 8 → (wrM w M0 core (s : Int)).1.g s c = w c) ∧ ∀ j, j < 64 → j ≠ s → (wrM w M0 core (s : Int)).1.g j = M0.g j ∧ (wrM w M0 core (s : Int)).1.h j = M0.h j := by
  have es : (s : Int).toNat = s := Int.toNat_natCast s
  have hb0 : M0.bad (s : Int) 7 = false := bad_of ⟨by omega, by rw [hn]; omega, by decide, by decide⟩
  have e0 := stM_on (v := 0) hon hb0
  have inv0 : WrInv M0 s w 0 (K + 1) (M0.stM (s : Int) 7 0) := by
    have eg : (M0.stM (s : Int) 7 0).g = updR M0.g s (stR (M0.g s) 7 0) := by rw [e0, es]; rfl
    have eh : (M0.stM (s : Int) 7 0).h = updR M0.h s (stH (M0.h s) (M0.g s 16).toNat 7 0) := by rw [e0, es]; rfl
    refine ⟨stM_on' hon, by rw [stM_n]; exact hn, stM_ok hok (by omega), ?_, fun c hc => absurd hc (Nat.not_lt_zero _), fun j hj => ?_⟩
    · rw [eg, eh, updR_self, updR_self]
      exact coh_st (w := 7) (v := 0) hcoh (hok.2.2.2.2 s (by rw [hn]; omega)).1.1 ⟨by decide, by decide⟩
    · rw [eg, eh, updR_ne hj, updR_ne hj]; exact ⟨rfl, rfl⟩
  obtain ⟨p2, inv⟩ := wr_all (w := w) (show s < 64 by omega) 8 0 _ (K + 1) inv0 (by omega) (by omega)
  have st0 := stC_on hon hb0
  unfold wrM
  rw [if_neg (fun hh => hh st0), if_neg (fun hh => hh p2)]
  generalize (stL w (s : Int) 8 0 (M0.stM (s : Int) 7 0)).1 = M at *
  have hb1 : M.bad (s : Int) core = false := bad_of ⟨by omega, by rw [inv.n]; omega, hcore.1, hcore.2⟩
  rw [if_neg (fun hh => hh (stC_on inv.on hb1))]
  have e1 := flM_on inv.on hb1
  have o1 : (M.flM core (s : Int)).on := flM_on' inv.on
  have k1 : (M.flM core (s : Int)).Ok (K + 10) := (flM_ok inv.ok).mono (by omega)
  have n1 : (M.flM core (s : Int)).n = 64 := flM_n.trans inv.n
  have g1 : (M.flM core (s : Int)).g = updR M.g s (flR (M.g s) core.toNat) := by rw [e1, es]; rfl
  have h1 : (M.flM core (s : Int)).h = M.h := by rw [e1]; rfl
  generalize M.flM core (s : Int) = M1 at *
  have gs : M1.g s = flR (M.g s) core.toNat := by rw [g1, updR_self]
  have c1 : Coh (M1.g s) (M1.h s) := by rw [gs, h1]; exact coh_fl inv.coh
  have now1 : ∀ c, c < 8 → M1.g s c = w c := fun c hc => by rw [gs, flR_lo (by omega)]; exact inv.now c hc
  have fl1 : M1.g s (17 + core.toNat) = M1.g s 16 := by
    have a : flR (M.g s) core.toNat (17 + core.toNat) = M.g s 16 := if_pos rfl
    have b : flR (M.g s) core.toNat 16 = M.g s 16 := flR_lo (by omega)
    rw [gs, a, b]
  have r1 := (k1.2.2.2.2 s (by rw [n1]; omega)).1
  have e2 := feM_on o1 (corB_of hcore)
  have cod : M1.feC core = 0 := by unfold Mem.feC; rw [corB_of hcore]; exact on_cod o1
  have k2 : (M1.feM core).Ok (K + 11) := (feM_ok k1).mono (by omega)
  refine ⟨cod, feM_on' o1, feM_n.trans n1, k2, ?_⟩
  have oth : ∀ j, j < 64 → j ≠ s → (M1.feM core).g j = M0.g j ∧ (M1.feM core).h j = M0.h j := fun j hj hjs => by
    have a1 : M1.g j = M0.g j := by rw [g1, updR_ne hjs]; exact (inv.other j hjs).1
    have a2 : M1.h j = M0.h j := by rw [h1]; exact (inv.other j hjs).2
    have := feM_idle (c := core) (k1.2.2.2.2 j (by rw [n1]; exact hj)).1 (by rw [a1]; exact hcnt j hj)
    rw [a1, a2] at this
    exact this
  have eg2 : (M1.feM core).g s = if M1.g s 16 > 0 then rowS (M1.g s) (M1.h s) (M1.g s 16).toNat else M1.g s := by
    rw [e2]
    show feG M1.n M1.g M1.h (17 + core.toNat) 0 s = _
    unfold feG
    rw [fl1]
    by_cases hp : M1.g s 16 > 0
    · rw [if_pos ⟨Nat.zero_le _, by omega, hp⟩, if_pos hp]
    · rw [if_neg (fun hh => hp hh.2.2), if_neg hp]
  have eh2 : (M1.feM core).h s = if M1.g s 16 > 0 then hS (M1.h s) (M1.g s 16).toNat else M1.h s := by
    rw [e2]
    show feH M1.n M1.g M1.h (17 + core.toNat) 0 s = _
    unfold feH
    rw [fl1]
    by_cases hp : M1.g s 16 > 0
    · rw [if_pos ⟨Nat.zero_le _, by omega, hp⟩, if_pos hp]
    · rw [if_neg (fun hh => hp hh.2.2), if_neg hp]
  have r16 := r1.1
  by_cases hp : M1.g s 16 > 0
  · rw [if_pos hp] at eg2 eh2
    refine ⟨by rw [eg2, rowS16]; omega, by rw [eg2, eh2]; exact coh_rowS c1 (by omega), fun c hc => by rw [eg2, rowS_now hc]; exact now1 c hc, oth⟩
  · rw [if_neg hp] at eg2 eh2
    exact ⟨by rw [eg2]; omega, by rw [eg2, eh2]; exact c1, fun c hc => by rw [eg2]; exact now1 c hc, oth⟩
end Go.Proofs.Ytgmhggipaopoiaa.G
end
