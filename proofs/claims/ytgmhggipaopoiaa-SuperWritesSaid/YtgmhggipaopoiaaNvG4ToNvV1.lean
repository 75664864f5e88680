/-
  What functions of the seat compute, printed by a program from the explorer.
-/
import Derived.Test.YtgmhggipaopoiaaG1ToNvO7
import Derived.KernelRfl
section
namespace Go.Proofs.Ytgmhggipaopoiaa.G
open Go Go.AM Go.Proofs
theorem f_mkS_7 : LoopF Try.prog 2 (loopAt Try.f40 7) (loopFn 2 lsh_mkS_7 xs_mkS_7 OL_mkS_7) :=
  loop_sat (sy := y_mkS_7) (fuel := 100) (Lp := Lp_mkS_1) o_cl mixed (loopsOK_at lk_mkS_1 7) rfl eB_mkS_7 rd_mkS_7
noncomputable def Lp_mkS_7 : Loops := Loops.set Lp_mkS_1 7 (loopFn 2 lsh_mkS_7 xs_mkS_7 OL_mkS_7)
theorem lk_mkS_7 : LoopsFn Try.prog 2 Lp_mkS_7 Try.f40 := loopsFn_set lk_mkS_1 (by kernel_rfl) f_mkS_7

/-! ### mkS -/

noncomputable def ish_mkS : FSh := ⟨[.v false [.pr 0 25 0], .v false [.k (.n .i64)]], [.nrows [.n .u64, .n .u64, .n .u64, .n .u64, .n .u64, .n .u64, .n .u64, .n .u64, .n .u64, .n .u64, .n .u64, .n .u64, .n .u64, .n .u64, .n .u64, .n .u64, .n .i64, .n .i64, .n .i64, .n .i64, .n .i64, .n .i64, .n .i64, .n .i64, .n .i64] 16 [.n .i64, .n .u64] 1 false true, .no]⟩
noncomputable def osh_mkS : FSh := ⟨[.tup []], [.nrows [.n .u64, .n .u64, .n .u64, .n .u64, .n .u64, .n .u64, .n .u64, .n .u64, .n .u64, .n .u64, .n .u64, .n .u64, .n .u64, .n .u64, .n .u64, .n .u64, .n .i64, .n .i64, .n .i64, .n .i64, .n .i64, .n .i64, .n .i64, .n .i64, .n .i64] 16 [.n .i64, .n .u64] 2 false true, .no, .no]⟩
noncomputable def mkS_c0 (x0 : Nat) (x1 : Int) (g2 : Nat → Nat → Int) (h2 : Nat → Nat → Int) : Int := (↑(Int.toNat (↑(Int.toNat (updR g2 x0 (putS (g2 x0) (apF (sur (g2 x0)) (h2 x0) (0 : Nat) (Int.toNat ((↑(Int.toNat x1 - (0 : Nat)) : Int) - (0 : Int))))) x0 (16 : Nat))) : Int) - Int.toNat x1) : Int)
noncomputable def mkS_c21 (x0 : Nat) (x1 : Int) (g2 : Nat → Nat → Int) (h2 : Nat → Nat → Int) : Bool := Decidable.decide (Int.toNat (↑(Int.toNat (updR g2 x0 (putS (g2 x0) (apF (sur (g2 x0)) (h2 x0) (0 : Nat) (Int.toNat ((↑(Int.toNat x1 - (0 : Nat)) : Int) - (0 : Int))))) x0 (16 : Nat))) : Int) - Int.toNat x1 ≤ (1073741824 : Nat))
noncomputable def T_mkS (x0 : Nat) (x1 : Int) (n2 : Nat) (g2 : Nat → Nat → Int) (h2 : Nat → Nat → Int) : Tr (List At) :=
 .br 12 (Bool.true && Decidable.decide ((0 : Int) ≤ x1) && Decidable.decide (x1 ≤ (↑(Int.toNat (g2 x0 (16 : Nat))) : Int)))
 (.br 0 (pdec (pre1 x0 (0 : Nat) (Int.toNat x1 - (0 : Nat)) (↑(Int.toNat x1 - (0 : Nat)) : Int) (0 : Int) h2))
 (.br 33 (Decidable.decide ((0 : Int) ≤ x1) && Decidable.decide (x1 ≤ (↑(Int.toNat (updR g2 x0 (putS (g2 x0) (apF (sur (g2 x0)) (h2 x0) (0 : Nat) (Int.toNat ((↑(Int.toNat x1 - (0 : Nat)) : Int) - (0 : Int))))) x0 (16 : Nat))) : Int)))
 (.br 0 ((mkS_c21 x0 x1 g2 h2))
 (.br 0 (Bool.true)
 (.br 0 (pdec (pre7 (Go.AM.updG (updR g2 x0 (putS (g2 x0) (apF (sur (g2 x0)) (h2 x0) (0 : Nat) (Int.toNat ((↑(Int.toNat x1 - (0 : Nat)) : Int) - (0 : Int)))))) x0 (16 : Nat) (mkS_c0 x0 x1 g2 h2) x0) x1 (0 : Int)))
 (.ok [(.q (n2) (updR (Go.AM.updG (updR g2 x0 (putS (g2 x0) (apF (sur (g2 x0)) (h2 x0) (0 : Nat) (Int.toNat ((↑(Int.toNat x1 - (0 : Nat)) : Int) - (0 : Int)))))) x0 (16 : Nat) (mkS_c0 x0 x1 g2 h2)) x0 (less (Go.AM.updG (updR g2 x0 (putS (g2 x0) (apF (sur (g2 x0)) (h2 x0) (0 : Nat) (Int.toNat ((↑(Int.toNat x1 - (0 : Nat)) : Int) - (0 : Int)))))) x0 (16 : Nat) (mkS_c0 x0 x1 g2 h2) x0) x1 (0 : Nat))) ((16 : Nat)) ((2 : Nat)) (Go.AM.putM h2 x0 (2 : Nat) fun (j cc : Nat) => h2 x0 ((Int.toNat x1 + j) * (2 : Nat) + cc)))])
 (.no))
 (.no))
 (.no))
 (.no))
 (.no))
 (.no)
noncomputable def y_mkS : Nat → Option Nat := (syOf3 [12, 33] [] [])
noncomputable def TL_mkS (l : List At) : Tr (List At) := T_mkS (aN l 0) (aI l 1) (aRn l 2) (aRg l 2) (aMh l 2 16 2)
theorem e_mkS (l : List At) : (call Try.prog Γ_cl y_mkS Lp_mkS_7 100 Try.f40 (mkV ish_mkS l) (mkH ish_mkS l)).bind (leafO 2 osh_mkS) = TL_mkS l := by kernel_rfl
end Go.Proofs.Ytgmhggipaopoiaa.G
end

/-
  makeSure, in plain words.
-/
section
namespace Go.Proofs.Ytgmhggipaopoiaa.G
open Go Go.AM Go.Proofs

noncomputable def F2_mkS (l : List At) : Tr (List At) := .br 0 (pdec (RowOk (aRg l 2 (aN l 0)) (aMh l 2 16 2 (aN l 0)) ∧ 0 ≤ aI l 1 ∧ aI l 1 ≤ aRg l 2 (aN l 0) 16))
  (.ok [.q (aRn l 2) (updR (aRg l 2) (aN l 0) (rowS (aRg l 2 (aN l 0)) (aMh l 2 16 2 (aN l 0)) (aI l 1).toNat)) 16 2 (updR (aMh l 2 16 2) (aN l 0) (hS (aMh l 2 16 2 (aN l 0)) (aI l 1).toNat))]) .no

theorem putS_out (r s : Nat → Int) {c : Nat} (h : ¬ (8 ≤ c ∧ c < 16)) : putS r s c = r c := if_neg h

theorem t_mkS (x0 : Nat) (x1 : Int) (n2 : Nat) (g2 h2 : Nat → Nat → Int) (hr : RowOk (g2 x0) (h2 x0)) (h0 : 0 ≤ x1) (h1 : x1 ≤ g2 x0 16) :
    (T_mkS x0 x1 n2 g2 h2).sat fun r => AtsEq r [.q n2 (updR g2 x0 (rowS (g2 x0) (h2 x0) x1.toNat)) 16 2 (updR h2 x0 (hS (h2 x0) x1.toNat))] := by
  obtain ⟨a1, a2, a3, a4⟩ := hr
  obtain ⟨n, rfl⟩ := Int.eq_ofNat_of_zero_le h0
  unfold T_mkS mkS_c21 mkS_c0
  simp only [Int.toNat_natCast, Nat.sub_zero, Int.sub_zero, updR_self, putS_out (g2 x0) _ (c := 16) (by omega)]
  refine brT (by simp; omega) (brT (pdec_yes ⟨by omega, by omega, rfl, by omega, fun k _ hk => by rw [Nat.zero_add]; exact a4 k (by omega)⟩) (brT (by simp; omega) (brT (decide_eq_true (by omega)) (brT rfl ?_))))
  have e16 : (((g2 x0 16).toNat - n : Nat) : Int) = g2 x0 16 - n := by omega
  rw [e16, updG_row, updR_updR, updR_self, updR_updR, updR_self]
  refine brT (pdec_yes ⟨by omega, by omega, by omega, by omega, fun c h5 h6 => ?_⟩) (Tr.sat_ok.2 (atsEq_cons (atEq_qe ?_ ?_) atsEq_nil))
  · have e : (fun c' => if c' = 16 then g2 x0 16 - n else putS (g2 x0) (apF (sur (g2 x0)) (h2 x0) 0 n) c') c = g2 x0 c := by
      show (if c = 16 then g2 x0 16 - (n : Int) else putS (g2 x0) (apF (sur (g2 x0)) (h2 x0) 0 n) c) = g2 x0 c
      rw [if_neg (by omega), putS_out _ _ (by omega)]
    rw [e]
    have := a3 c h5 h6
    omega
  · congr 1
    funext c
    unfold less rowS
    show (if 17 + 0 ≤ c ∧ c < 25 then (if (if c = 16 then g2 x0 16 - (n : Int) else putS (g2 x0) (apF (sur (g2 x0)) (h2 x0) 0 n) c) - (n : Int) > 0 then (if c = 16 then g2 x0 16 - (n : Int) else putS (g2 x0) (apF (sur (g2 x0)) (h2 x0) 0 n) c) - (n : Int) else 0) else (if c = 16 then g2 x0 16 - (n : Int) else putS (g2 x0) (apF (sur (g2 x0)) (h2 x0) 0 n) c)) = _
    rw [Nat.add_zero]
    by_cases h5 : c = 16
    · rw [if_neg (show ¬ (17 ≤ c ∧ c < 25) by omega), if_pos h5, if_pos h5]
    · rw [if_neg h5, if_neg h5]
      by_cases h6 : 17 ≤ c ∧ c < 25
      · rw [if_pos h6, if_pos h6, putS_out _ _ (by omega)]
      · rw [if_neg h6, if_neg h6]
  · funext i k
    unfold putM updR hS
    by_cases h5 : i = x0
    · rw [if_pos h5, if_pos h5]
      exact congrArg (h2 x0) (by omega)
    · rw [if_neg h5, if_neg h5]

theorem s2_mkS : SpecF Try.prog 40 (.eff (locF ish_mkS osh_mkS F2_mkS)) :=
  spec_loc (sy := y_mkS) (fuel := 100) (Lp := Lp_mkS_7) o_cl mixed ⟨Try.func40, by kernel_rfl, by kernel_rfl⟩ ish_mkS osh_mkS lk_mkS_7 (hT_of e_mkS fun l r h => by
    obtain ⟨hc, h⟩ := guard_val h
    obtain ⟨h1, h2, h3⟩ := of_pdec hc
    have := val_ok h
    subst this
    exact t_mkS _ _ _ _ _ h1 h2 h3)
noncomputable def Γ_S4 : Specs := upd Γ_cl 40 (.eff (locF ish_mkS osh_mkS F2_mkS))
theorem o_S4 : SpecOK Try.prog Γ_S4 := SpecOK.upd o_cl s2_mkS
end Go.Proofs.Ytgmhggipaopoiaa.G
end

/-
  A memory that lasts, in plain words: what each call makes of it.
-/
section
namespace Go.Proofs.Ytgmhggipaopoiaa.G
open Go Go.AM Go.Proofs

structure Mem where
  n : Nat
  g : Nat → Nat → Int
  h : Nat → Nat → Int
  off : Bool
  burns : Bool
  left : Int
  steps : Int

def mm (l : List At) (k : Nat) : Mem := ⟨aRn l (k + 4), aRg l (k + 4), aMh l (k + 4) 16 2, aB l k, aB l (k + 1), aI l (k + 2), aI l (k + 3)⟩
def Mem.ats (m : Mem) : List At := [.b m.off, .b m.burns, .i m.left, .i m.steps, .q m.n m.g 16 2 m.h]

def Mem.Ok (K : Int) (m : Mem) : Prop := (m.burns = true → 0 ≤ m.left ∧ m.left ≤ 9223372036854775807) ∧ 0 ≤ m.steps ∧ m.steps ≤ K ∧ m.n ≤ 1073741824 ∧ ∀ i, i < m.n → RowOk (m.g i) (m.h i) ∧ m.g i 16 ≤ m.steps

theorem Mem.Ok.mono {K K' : Int} {m : Mem} (h : m.Ok K) (hk : K ≤ K') : m.Ok K' := ⟨h.1, h.2.1, by have := h.2.2.1; omega, h.2.2.2.1, h.2.2.2.2⟩

def Mem.po (m : Mem) : Bool := offB m.off m.burns m.left
def Mem.cod (m : Mem) : Int := codeI m.off m.burns m.left
def Mem.stp (m : Mem) : Mem := ⟨m.n, m.g, m.h, m.po, m.burns, leftI m.off m.burns m.left, stepsI m.off m.burns m.left m.steps⟩
def Mem.wit (m : Mem) (g h : Nat → Nat → Int) : Mem := ⟨m.n, g, h, m.off, m.burns, m.left, m.steps⟩

def Mem.bad (m : Mem) (i x : Int) : Bool := decide (i < 0) || decide (i ≥ (m.n : Int)) || decide (x < 0) || decide (x ≥ 8)

def stR (r : Nat → Int) (w : Nat) (v : Int) : Nat → Int := fun c => if c = 16 then r 16 + 1 else if c = w then v else r c
def stH (hr : Nat → Int) (k : Nat) (w v : Int) : Nat → Int := fun j => if j = k * 2 then w else if j = k * 2 + 1 then v else hr j
def Mem.stC (m : Mem) (i w : Int) : Int := bif m.bad i w then 1 else m.cod
def Mem.stM (m : Mem) (i w v : Int) : Mem := bif m.bad i w then m else bif m.po then m.stp else
  m.stp.wit (updR m.g i.toNat (stR (m.g i.toNat) w.toNat v)) (updR m.h i.toNat (stH (m.h i.toNat) (m.g i.toNat 16).toNat w v))

def flR (r : Nat → Int) (c : Nat) : Nat → Int := fun k => if k = 17 + c then r 16 else r k
def Mem.flM (m : Mem) (c i : Int) : Mem := bif m.bad i c then m else bif m.po then m.stp else m.stp.wit (updR m.g i.toNat (flR (m.g i.toNat) c.toNat)) m.h

def feG (n : Nat) (g h : Nat → Nat → Int) (k a : Nat) : Nat → Nat → Int := fun i => if a ≤ i ∧ i < n ∧ g i k > 0 then rowS (g i) (h i) (g i k).toNat else g i
def feH (n : Nat) (g h : Nat → Nat → Int) (k a : Nat) : Nat → Nat → Int := fun i => if a ≤ i ∧ i < n ∧ g i k > 0 then hS (h i) (g i k).toNat else h i
def corB (c : Int) : Bool := decide (c < 0) || decide (c ≥ 8)
def Mem.feC (m : Mem) (c : Int) : Int := bif corB c then 1 else m.cod
def Mem.feM (m : Mem) (c : Int) : Mem := bif corB c then m else bif m.po then m.stp else m.stp.wit (feG m.n m.g m.h (17 + c.toNat) 0) (feH m.n m.g m.h (17 + c.toNat) 0)

def Mem.fuM (m : Mem) (x : Int) : Mem := ⟨m.n, m.g, m.h, m.off, decide (x ≥ 0), x, m.steps⟩

/-! ### a crash -/

def kv (q : Nat → Int) (kn j : Nat) : Int := if j < kn then (if q j < 0 then -(q j + 1) else q j) else 0
def cntU (g : Nat → Nat → Int) : (a d : Nat) → Nat
  | _, 0 => 0
  | a, d + 1 => (if g a 16 > 0 then 1 else 0) + cntU g (a + 1) d
def crK (q : Nat → Int) (kn j : Nat) (s : Int) : Nat := (kv q kn j % (s + 1)).toNat
def crR (r hr : Nat → Int) (k : Nat) : Nat → Int := fun c => if c < 8 then apF (sur r) hr 0 k c else if c < 16 then apF (sur r) hr 0 k (c - 8) else if c < 25 then 0 else r c
def crG (n : Nat) (g h : Nat → Nat → Int) (q : Nat → Int) (kn a : Nat) : Nat → Nat → Int := fun i =>
  if a ≤ i ∧ i < n ∧ g i 16 > 0 then crR (g i) (h i) (crK q kn (cntU g a (i - a)) (g i 16)) else g i
def Mem.crM (m : Mem) (q : Nat → Int) (kn : Nat) : Mem := ⟨m.n, crG m.n m.g m.h q kn 0, m.h, false, false, m.left, m.steps⟩

def newM (n : Nat) : Mem := ⟨n, fun _ _ => 0, fun _ _ => 0, false, false, 0, 0⟩

/-! ### a memory stays one that may be -/

theorem po_left {m : Mem} {K : Int} (h : m.Ok K) : (m.burns = true → 0 ≤ leftI m.off m.burns m.left ∧ leftI m.off m.burns m.left ≤ 9223372036854775807) := by
  intro hb
  obtain ⟨h1, h2⟩ := h.1 hb
  unfold leftI offB
  rw [hb]
  cases m.off with
  | true => exact ⟨h1, h2⟩
  | false =>
    by_cases hl : m.left = 0
    · rw [hl]; exact ⟨by decide, by decide⟩
    · have : (m.left == 0) = false := by simpa using hl
      rw [this]
      show 0 ≤ m.left - 1 ∧ m.left - 1 ≤ 9223372036854775807
      omega

theorem stp_steps (m : Mem) : m.stp.steps = if m.po then m.steps else m.steps + 1 := by
  show stepsI m.off m.burns m.left m.steps = _
  unfold stepsI Mem.po
  cases offB m.off m.burns m.left <;> rfl

theorem stp_ok {m : Mem} {K : Int} (h : m.Ok K) : m.stp.Ok (K + 1) := by
  have hs : m.stp.steps = m.steps ∨ m.stp.steps = m.steps + 1 := by rw [stp_steps]; split <;> simp
  refine ⟨po_left h, ?_, ?_, h.2.2.2.1, fun i hi => ⟨(h.2.2.2.2 i hi).1, ?_⟩⟩
  · have := h.2.1; omega
  · have := h.2.2.1; omega
  · show m.g i 16 ≤ m.stp.steps
    have := (h.2.2.2.2 i hi).2
    omega

theorem wit_ok {m : Mem} {K : Int} {g' h' : Nat → Nat → Int} (h : m.Ok K) (hr : ∀ i, i < m.n → RowOk (g' i) (h' i) ∧ g' i 16 ≤ m.steps) : (m.wit g' h').Ok K := ⟨h.1, h.2.1, h.2.2.1, h.2.2.2.1, hr⟩

theorem rowOk_st {r hr : Nat → Int} {w : Int} {v : Int} (h : RowOk r hr) (h1 : r 16 < 1000000) (hw : 0 ≤ w ∧ w < 8) : RowOk (stR r w.toNat v) (stH hr (r 16).toNat w v) := by
  obtain ⟨a1, a2, a3, a4⟩ := h
  have e : stR r w.toNat v 16 = r 16 + 1 := if_pos rfl
  refine ⟨by rw [e]; omega, by rw [e]; omega, fun c h5 h6 => ?_, fun k hk => ?_⟩
  · rw [e]
    have : stR r w.toNat v c = r c := by unfold stR; rw [if_neg (by omega), if_neg (by omega)]
    rw [this]
    have := a3 c h5 h6
    omega
  · rw [e] at hk
    unfold stH
    by_cases hk2 : k = (r 16).toNat
    · rw [if_pos (by omega)]; exact hw
    · rw [if_neg (by omega), if_neg (by omega)]
      exact a4 k (by omega)

theorem bad_no {m : Mem} {i x : Int} (h : m.bad i x = false) : 0 ≤ i ∧ i < m.n ∧ 0 ≤ x ∧ x < 8 := by
  unfold Mem.bad at h
  simp only [Bool.or_eq_false_iff, decide_eq_false_iff_not] at h
  omega

theorem po_no {m : Mem} (h : m.po = false) : m.stp.steps = m.steps + 1 := by rw [stp_steps, h]; rfl

theorem stM_ok {m : Mem} {K : Int} {i w v : Int} (h : m.Ok K) (hK : K < 1000000) : (m.stM i w v).Ok (K + 1) := by
  unfold Mem.stM
  cases hb : m.bad i w with
  | true => exact h.mono (by omega)
  | false =>
    cases hp : m.po with
    | true => exact stp_ok h
    | false =>
      obtain ⟨h0, h1, h2, h3⟩ := bad_no hb
      refine wit_ok (stp_ok h) fun j hj => ?_
      obtain ⟨hr, hs⟩ := h.2.2.2.2 j hj
      have hK2 := h.2.2.1
      rw [po_no hp]
      by_cases hji : j = i.toNat
      · subst hji
        rw [updR_self, updR_self]
        exact ⟨rowOk_st hr (by omega) ⟨h2, h3⟩, by show stR _ _ _ 16 ≤ _; rw [show stR (m.g i.toNat) w.toNat v 16 = m.g i.toNat 16 + 1 from if_pos rfl]; omega⟩
      · rw [updR_ne hji, updR_ne hji]
        exact ⟨hr, by omega⟩

theorem rowOk_fl {r hr : Nat → Int} {c : Nat} (h : RowOk r hr) : RowOk (flR r c) hr := by
  obtain ⟨a1, a2, a3, a4⟩ := h
  have e : flR r c 16 = r 16 := if_neg (by omega)
  refine ⟨by rw [e]; exact a1, by rw [e]; exact a2, fun k h5 h6 => ?_, fun k hk => a4 k (by rw [e] at hk; exact hk)⟩
  rw [e]
  unfold flR
  split
  · omega
  · exact a3 k h5 h6

theorem flM_ok {m : Mem} {K : Int} {c i : Int} (h : m.Ok K) : (m.flM c i).Ok (K + 1) := by
  unfold Mem.flM
  cases hb : m.bad i c with
  | true => exact h.mono (by omega)
  | false =>
    cases hp : m.po with
    | true => exact stp_ok h
    | false =>
      refine wit_ok (stp_ok h) fun j hj => ?_
      obtain ⟨hr, hs⟩ := h.2.2.2.2 j hj
      rw [po_no hp]
      by_cases hji : j = i.toNat
      · subst hji
        rw [updR_self]
        exact ⟨rowOk_fl hr, by rw [show flR (m.g i.toNat) c.toNat 16 = m.g i.toNat 16 from if_neg (by omega)]; omega⟩
      · rw [updR_ne hji]
        exact ⟨hr, by omega⟩

theorem rowS16 (r hr : Nat → Int) (n : Nat) : rowS r hr n 16 = r 16 - n := if_pos rfl

theorem fe_ok {n : Nat} {g h : Nat → Nat → Int} {k a : Nat} {s : Int} (hk : 17 ≤ k ∧ k < 25) (hr : ∀ i, i < n → RowOk (g i) (h i) ∧ g i 16 ≤ s) : ∀ i, i < n → RowOk (feG n g h k a i) (feH n g h k a i) ∧ feG n g h k a i 16 ≤ s := by
  intro i hi
  obtain ⟨h1, h2⟩ := hr i hi
  unfold feG feH
  by_cases hc : a ≤ i ∧ i < n ∧ g i k > 0
  · rw [if_pos hc, if_pos hc]
    have := h1.2.2.1 k hk.1 hk.2
    exact ⟨rowOk_mk h1 (by omega), by rw [rowS16]; omega⟩
  · rw [if_neg hc, if_neg hc]; exact ⟨h1, h2⟩

theorem corB_no {c : Int} (h : corB c = false) : 0 ≤ c ∧ c < 8 := by
  unfold corB at h
  simp only [Bool.or_eq_false_iff, decide_eq_false_iff_not] at h
  omega

theorem feM_ok {m : Mem} {K : Int} {c : Int} (h : m.Ok K) : (m.feM c).Ok (K + 1) := by
  unfold Mem.feM
  cases hb : corB c with
  | true => exact h.mono (by omega)
  | false =>
    cases hp : m.po with
    | true => exact stp_ok h
    | false =>
      have := corB_no hb
      refine wit_ok (stp_ok h) (fe_ok (by omega) fun j hj => ⟨(h.2.2.2.2 j hj).1, ?_⟩)
      rw [po_no hp]
      have := (h.2.2.2.2 j hj).2
      omega

theorem fuM_ok {m : Mem} {K : Int} {x : Int} (h : m.Ok K) (hx : x ≤ 9223372036854775807) : (m.fuM x).Ok K :=
  ⟨fun hb => ⟨of_decide_eq_true hb, hx⟩, h.2⟩

theorem crM_ok {m : Mem} {K : Int} {q : Nat → Int} {kn : Nat} (h : m.Ok K) : (m.crM q kn).Ok K := by
  refine ⟨fun hb => (nomatch hb), h.2.1, h.2.2.1, h.2.2.2.1, fun i hi => ?_⟩
  obtain ⟨hr, hs⟩ := h.2.2.2.2 i hi
  show RowOk (crG m.n m.g m.h q kn 0 i) (m.h i) ∧ crG m.n m.g m.h q kn 0 i 16 ≤ m.steps
  unfold crG
  by_cases hc : 0 ≤ i ∧ i < m.n ∧ m.g i 16 > 0
  · rw [if_pos hc]
    have e : ∀ k c, 16 ≤ c → c < 25 → crR (m.g i) (m.h i) k c = 0 := fun k c h5 h6 => by
      unfold crR
      rw [if_neg (by omega), if_neg (by omega), if_pos h6]
    have hst := h.2.1
    exact ⟨⟨by rw [e _ _ (by omega) (by omega)]; decide, by rw [e _ _ (by omega) (by omega)]; decide, fun c h5 h6 => by rw [e _ _ (by omega) h6, e _ _ (by omega) (by omega)]; decide, fun k hk => by rw [e _ _ (by omega) (by omega)] at hk; omega⟩, by rw [e _ _ (by omega) (by omega)]; omega⟩
  · rw [if_neg hc]
    exact ⟨hr, hs⟩

theorem newM_ok {n : Nat} (h : n ≤ 1073741824) : (newM n).Ok 0 := ⟨fun hb => (nomatch hb), Int.le_refl _, Int.le_refl _, h, fun _ _ => ⟨⟨Int.le_refl _, by show (0 : Int) ≤ 1000000; decide, fun _ _ _ => ⟨Int.le_refl _, Int.le_refl _⟩, fun k hk => by have : (k : Int) < 0 := hk; omega⟩, Int.le_refl _⟩⟩

theorem po_cod {m : Mem} (h : m.po = false) : m.cod = 0 := by unfold Mem.cod codeI; rw [show offB m.off m.burns m.left = false from h]; rfl
theorem po_cod4 {m : Mem} (h : m.po = true) : m.cod = 4 := by unfold Mem.cod codeI; rw [show offB m.off m.burns m.left = true from h]; rfl
end Go.Proofs.Ytgmhggipaopoiaa.G
end

/-
  What functions of the seat compute, printed by a program from the explorer.
-/
section
namespace Go.Proofs.Ytgmhggipaopoiaa.G
open Go Go.AM Go.Proofs
/-! ### store -/

noncomputable def ish_store : FSh := ⟨[.v false [.p 0 0], .v false [.k (.n .i64)], .v false [.k (.n .i64)], .v false [.k (.n .u64)]], [.cells [.sw 1 25, .k .b, .k .b, .k (.n .i64), .k (.n .i64)], .nrows [.n .u64, .n .u64, .n .u64, .n .u64, .n .u64, .n .u64, .n .u64, .n .u64, .n .u64, .n .u64, .n .u64, .n .u64, .n .u64, .n .u64, .n .u64, .n .u64, .n .i64, .n .i64, .n .i64, .n .i64, .n .i64, .n .i64, .n .i64, .n .i64, .n .i64] 16 [.n .i64, .n .u64] 2 false true, .no]⟩
noncomputable def osh_store : FSh := ⟨[.v false [.k (.n .i64)]], [.cells [.sw 1 25, .k .b, .k .b, .k (.n .i64), .k (.n .i64)], .nrows [.n .u64, .n .u64, .n .u64, .n .u64, .n .u64, .n .u64, .n .u64, .n .u64, .n .u64, .n .u64, .n .u64, .n .u64, .n .u64, .n .u64, .n .u64, .n .u64, .n .i64, .n .i64, .n .i64, .n .i64, .n .i64, .n .i64, .n .i64, .n .i64, .n .i64] 16 [.n .i64, .n .u64] 3 false true, .no, .no]⟩
noncomputable def store_c4 (x0 : Int) (x1 : Int) (x2 : Int) (g7 : Nat → Nat → Int) : Bool := Decidable.decide (Int.toNat (Go.AM.updG g7 (Int.toNat x0) ((0 : Nat) + Int.toNat x1 * (1 : Nat)) x2 (Int.toNat x0) (16 : Nat)) + (1 : Nat) ≤ (1073741824 : Nat))
noncomputable def store_c5 (x0 : Int) (n7 : Nat) : Bool := Decidable.decide (x0 ≥ (↑n7 : Int))
noncomputable def T_store (x0 : Int) (x1 : Int) (x2 : Int) (x3 : Bool) (x4 : Bool) (x5 : Int) (x6 : Int) (n7 : Nat) (g7 : Nat → Nat → Int) (h7 : Nat → Nat → Int) : Tr (List At) :=
 .br 7 (Decidable.decide (x0 < (0 : Int)))
 (.br 20 (Bool.true)
 (.ok [(.i ((1 : Int))), (.b (x3)), (.b (x4)), (.i (x5)), (.i (x6)), (.q (n7) (g7) ((16 : Nat)) ((2 : Nat)) (h7))])
 (.br 23 (Decidable.decide (x1 ≥ (8 : Int)))
 (.ok [(.i ((1 : Int))), (.b (x3)), (.b (x4)), (.i (x5)), (.i (x6)), (.q (n7) (g7) ((16 : Nat)) ((2 : Nat)) (h7))])
 (.br 0 (pdec (x4 = Bool.true → (0 : Int) ≤ x5 ∧ x5 ≤ (9223372036854775807 : Int)))
 (.br 0 (pdec ((0 : Int) ≤ x6 ∧ x6 ≤ (1000000000 : Int)))
 (.br 27 (codeI x3 x4 x5 != (0 : Int))
 (.ok [(.i (codeI x3 x4 x5)), (.b (offB x3 x4 x5)), (.b (x4)), (.i (leftI x3 x4 x5)), (.i (stepsI x3 x4 x5 x6)), (.q (n7) (g7) ((16 : Nat)) ((2 : Nat)) (h7))])
 (.no))
 (.no))
 (.no))))
 (.br 15 ((store_c5 x0 n7))
 (.br 20 (Bool.true)
 (.ok [(.i ((1 : Int))), (.b (x3)), (.b (x4)), (.i (x5)), (.i (x6)), (.q (n7) (g7) ((16 : Nat)) ((2 : Nat)) (h7))])
 (.br 23 (Decidable.decide (x1 ≥ (8 : Int)))
 (.ok [(.i ((1 : Int))), (.b (x3)), (.b (x4)), (.i (x5)), (.i (x6)), (.q (n7) (g7) ((16 : Nat)) ((2 : Nat)) (h7))])
 (.br 0 (pdec (x4 = Bool.true → (0 : Int) ≤ x5 ∧ x5 ≤ (9223372036854775807 : Int)))
 (.br 0 (pdec ((0 : Int) ≤ x6 ∧ x6 ≤ (1000000000 : Int)))
 (.br 27 (codeI x3 x4 x5 != (0 : Int))
 (.ok [(.i (codeI x3 x4 x5)), (.b (offB x3 x4 x5)), (.b (x4)), (.i (leftI x3 x4 x5)), (.i (stepsI x3 x4 x5 x6)), (.q (n7) (g7) ((16 : Nat)) ((2 : Nat)) (h7))])
 (.no))
 (.no))
 (.no))))
 (.br 21 (Go.AM.within x0 n7)
 (.br 20 (Decidable.decide (x1 < (0 : Int)))
 (.ok [(.i ((1 : Int))), (.b (x3)), (.b (x4)), (.i (x5)), (.i (x6)), (.q (n7) (g7) ((16 : Nat)) ((2 : Nat)) (h7))])
 (.br 23 (Decidable.decide (x1 ≥ (8 : Int)))
 (.ok [(.i ((1 : Int))), (.b (x3)), (.b (x4)), (.i (x5)), (.i (x6)), (.q (n7) (g7) ((16 : Nat)) ((2 : Nat)) (h7))])
 (.br 0 (pdec (x4 = Bool.true → (0 : Int) ≤ x5 ∧ x5 ≤ (9223372036854775807 : Int)))
 (.br 0 (pdec ((0 : Int) ≤ x6 ∧ x6 ≤ (1000000000 : Int)))
 (.br 27 (codeI x3 x4 x5 != (0 : Int))
 (.ok [(.i (codeI x3 x4 x5)), (.b (offB x3 x4 x5)), (.b (x4)), (.i (leftI x3 x4 x5)), (.i (stepsI x3 x4 x5 x6)), (.q (n7) (g7) ((16 : Nat)) ((2 : Nat)) (h7))])
 (.br 200034 (Go.AM.within x1 (8 : Nat))
 (.br 44 ((store_c4 x0 x1 x2 g7))
 (.br 0 (Nat.beq (Int.toNat x0) (Int.toNat x0))
 (.ok [(.i ((0 : Int))), (.b (offB x3 x4 x5)), (.b (x4)), (.i (leftI x3 x4 x5)), (.i (stepsI x3 x4 x5 x6)), (.q (n7) (Go.AM.updG (Go.AM.updG g7 (Int.toNat x0) ((0 : Nat) + Int.toNat x1 * (1 : Nat)) x2) (Int.toNat x0) (16 : Nat) (↑(Int.toNat (Go.AM.updG g7 (Int.toNat x0) ((0 : Nat) + Int.toNat x1 * (1 : Nat)) x2 (Int.toNat x0) (16 : Nat)) + (1 : Nat)) : Int)) ((16 : Nat)) ((2 : Nat)) (Go.AM.putM h7 (Int.toNat x0) (2 : Nat) (Go.AM.appG (fun (j c : Nat) => h7 (Int.toNat x0) (j * (2 : Nat) + c)) (Int.toNat (Go.AM.updG g7 (Int.toNat x0) ((0 : Nat) + Int.toNat x1 * (1 : Nat)) x2 (Int.toNat x0) (16 : Nat))) (Go.AM.rowsF [[x1, x2]]))))])
 (.no))
 (.no))
 (.no)))
 (.no))
 (.no))))
 (.no)))
noncomputable def y_store : Nat → Option Nat := (syOf3 [7, 15, 21, 20, 23, 27, 44] [] [34])
noncomputable def TL_store (l : List At) : Tr (List At) := T_store (aI l 0) (aI l 1) (aI l 2) (aB l 3) (aB l 4) (aI l 5) (aI l 6) (aRn l 7) (aRg l 7) (aMh l 7 16 2)
theorem e_store (l : List At) : (call Try.prog Γ_S4 y_store noLoops 100 Try.f35 (mkV ish_store l) (mkH ish_store l)).bind (leafO 3 osh_store) = TL_store l := by kernel_rfl
noncomputable def F_store : List At → Tr (List At) := TL_store
theorem s_store : SpecF Try.prog 35 (.eff (locF ish_store osh_store F_store)) :=
  spec_loc (sy := y_store) (fuel := 100) (Lp := noLoops) o_S4 mixed ⟨Try.func35, by kernel_rfl, by kernel_rfl⟩ ish_store osh_store (noLoops_ok _) (hT_ways e_store)
noncomputable def Γ_store : Specs := upd Γ_S4 35 (.eff (locF ish_store osh_store F_store))
theorem o_store : SpecOK Try.prog Γ_store := SpecOK.upd o_S4 s_store

/-! ### load -/

noncomputable def ish_load : FSh := ⟨[.v false [.p 0 0], .v false [.k (.n .i64)]], [.roc [.sw 1 25, .k .b, .k .b, .k (.n .i64), .k (.n .i64)], .nrows [.n .u64, .n .u64, .n .u64, .n .u64, .n .u64, .n .u64, .n .u64, .n .u64, .n .u64, .n .u64, .n .u64, .n .u64, .n .u64, .n .u64, .n .u64, .n .u64, .n .i64, .n .i64, .n .i64, .n .i64, .n .i64, .n .i64, .n .i64, .n .i64, .n .i64] 16 [.n .i64, .n .u64] 2 false false, .no]⟩
noncomputable def osh_load : FSh := ⟨[.tup [(true, [.k (.n .u64), .k (.n .u64), .k (.n .u64), .k (.n .u64), .k (.n .u64), .k (.n .u64), .k (.n .u64), .k (.n .u64)]), (false, [.k (.n .i64)])]], [.no, .no, .no]⟩
noncomputable def load_c0 (x0 : Int) (n5 : Nat) : Bool := Decidable.decide (x0 ≥ (↑n5 : Int))
noncomputable def T_load (x0 : Int) (x1 : Bool) (x2 : Bool) (x3 : Int) (x4 : Int) (n5 : Nat) (g5 : Nat → Nat → Int) (h5 : Nat → Nat → Int) : Tr (List At) :=
 .br 7 (Decidable.decide (x0 < (0 : Int)))
 (.ok [(.i ((0 : Int))), (.i ((0 : Int))), (.i ((0 : Int))), (.i ((0 : Int))), (.i ((0 : Int))), (.i ((0 : Int))), (.i ((0 : Int))), (.i ((0 : Int))), (.i ((1 : Int)))])
 (.br 15 ((load_c0 x0 n5))
 (.ok [(.i ((0 : Int))), (.i ((0 : Int))), (.i ((0 : Int))), (.i ((0 : Int))), (.i ((0 : Int))), (.i ((0 : Int))), (.i ((0 : Int))), (.i ((0 : Int))), (.i ((1 : Int)))])
 (.br 21 (Go.AM.within x0 n5)
 (.br 14 (x1)
 (.ok [(.i ((0 : Int))), (.i ((0 : Int))), (.i ((0 : Int))), (.i ((0 : Int))), (.i ((0 : Int))), (.i ((0 : Int))), (.i ((0 : Int))), (.i ((0 : Int))), (.i ((4 : Int)))])
 (.ok [(.i (g5 (Int.toNat x0) (0 : Nat))), (.i (g5 (Int.toNat x0) (1 : Nat))), (.i (g5 (Int.toNat x0) (2 : Nat))), (.i (g5 (Int.toNat x0) (3 : Nat))), (.i (g5 (Int.toNat x0) (4 : Nat))), (.i (g5 (Int.toNat x0) (5 : Nat))), (.i (g5 (Int.toNat x0) (6 : Nat))), (.i (g5 (Int.toNat x0) (7 : Nat))), (.i ((0 : Int)))]))
 (.no)))
noncomputable def y_load : Nat → Option Nat := (syOf3 [7, 15, 21, 14] [] [])
noncomputable def TL_load (l : List At) : Tr (List At) := T_load (aI l 0) (aB l 1) (aB l 2) (aI l 3) (aI l 4) (aRn l 5) (aRg l 5) (aMh l 5 16 2)
theorem e_load (l : List At) : (call Try.prog Γ_store y_load noLoops 100 Try.f38 (mkV ish_load l) (mkH ish_load l)).bind (leafO 3 osh_load) = TL_load l := by kernel_rfl
noncomputable def F_load : List At → Tr (List At) := TL_load
theorem s_load : SpecF Try.prog 38 (.read (locR ish_load osh_load F_load)) :=
  spec_read (sy := y_load) (fuel := 100) (Lp := noLoops) o_store mixed ⟨Try.func38, by kernel_rfl, by kernel_rfl⟩ ish_load osh_load (by kernel_rfl) (noLoops_ok _) (hT_ways e_load)
noncomputable def Γ_load : Specs := upd Γ_store 38 (.read (locR ish_load osh_load F_load))
theorem o_load : SpecOK Try.prog Γ_load := SpecOK.upd o_store s_load

/-! ### steps -/

noncomputable def ish_steps : FSh := ⟨[.v false [.p 0 0]], [.roc [.opq 1, .k .b, .k .b, .k (.n .i64), .k (.n .i64)], .no]⟩
noncomputable def osh_steps : FSh := ⟨[.v false [.k (.n .i64)]], [.no, .no]⟩
noncomputable def T_steps (x0 : Bool) (x1 : Bool) (x2 : Int) (x3 : Int) : Tr (List At) :=
 .ok [(.i (x3))]
noncomputable def y_steps : Nat → Option Nat := (syOf3 [] [] [])
noncomputable def TL_steps (l : List At) : Tr (List At) := T_steps (aB l 0) (aB l 1) (aI l 2) (aI l 3)
theorem e_steps (l : List At) : (call Try.prog Γ_load y_steps noLoops 100 Try.f29 (mkV ish_steps l) (mkH ish_steps l)).bind (leafO 2 osh_steps) = TL_steps l := by kernel_rfl
noncomputable def F_steps : List At → Tr (List At) := TL_steps
theorem s_steps : SpecF Try.prog 29 (.read (locR ish_steps osh_steps F_steps)) :=
  spec_read (sy := y_steps) (fuel := 100) (Lp := noLoops) o_load mixed ⟨Try.func29, by kernel_rfl, by kernel_rfl⟩ ish_steps osh_steps (by kernel_rfl) (noLoops_ok _) (hT_ways e_steps)
noncomputable def Γ_steps : Specs := upd Γ_load 29 (.read (locR ish_steps osh_steps F_steps))
theorem o_steps : SpecOK Try.prog Γ_steps := SpecOK.upd o_load s_steps

/-! ### fusem -/

noncomputable def ish_fusem : FSh := ⟨[.v false [.p 0 0], .v false [.k (.n .i64)]], [.cells [.sw 1 25, .k .b, .k .b, .k (.n .i64), .k (.n .i64)], .nrows [.n .u64, .n .u64, .n .u64, .n .u64, .n .u64, .n .u64, .n .u64, .n .u64, .n .u64, .n .u64, .n .u64, .n .u64, .n .u64, .n .u64, .n .u64, .n .u64, .n .i64, .n .i64, .n .i64, .n .i64, .n .i64, .n .i64, .n .i64, .n .i64, .n .i64] 16 [.n .i64, .n .u64] 2 false true, .no]⟩
noncomputable def osh_fusem : FSh := ⟨[.tup []], [.cells [.sw 1 25, .k .b, .k .b, .k (.n .i64), .k (.n .i64)], .nrows [.n .u64, .n .u64, .n .u64, .n .u64, .n .u64, .n .u64, .n .u64, .n .u64, .n .u64, .n .u64, .n .u64, .n .u64, .n .u64, .n .u64, .n .u64, .n .u64, .n .i64, .n .i64, .n .i64, .n .i64, .n .i64, .n .i64, .n .i64, .n .i64, .n .i64] 16 [.n .i64, .n .u64] 2 false true, .no]⟩
noncomputable def T_fusem (x0 : Int) (x1 : Bool) (x2 : Bool) (x3 : Int) (x4 : Int) (n5 : Nat) (g5 : Nat → Nat → Int) (h5 : Nat → Nat → Int) : Tr (List At) :=
 .ok [(.b (x1)), (.b (Decidable.decide (x0 ≥ (0 : Int)))), (.i (x0)), (.i (x4)), (.q (n5) (g5) ((16 : Nat)) ((2 : Nat)) (h5))]
noncomputable def y_fusem : Nat → Option Nat := (syOf3 [] [] [])
noncomputable def TL_fusem (l : List At) : Tr (List At) := T_fusem (aI l 0) (aB l 1) (aB l 2) (aI l 3) (aI l 4) (aRn l 5) (aRg l 5) (aMh l 5 16 2)
theorem e_fusem (l : List At) : (call Try.prog Γ_steps y_fusem noLoops 100 Try.f25 (mkV ish_fusem l) (mkH ish_fusem l)).bind (leafO 3 osh_fusem) = TL_fusem l := by kernel_rfl
noncomputable def F_fusem : List At → Tr (List At) := TL_fusem
theorem s_fusem : SpecF Try.prog 25 (.eff (locF ish_fusem osh_fusem F_fusem)) :=
  spec_loc (sy := y_fusem) (fuel := 100) (Lp := noLoops) o_steps mixed ⟨Try.func25, by kernel_rfl, by kernel_rfl⟩ ish_fusem osh_fusem (noLoops_ok _) (hT_ways e_fusem)
noncomputable def Γ_fusem : Specs := upd Γ_steps 25 (.eff (locF ish_fusem osh_fusem F_fusem))
theorem o_fusem : SpecOK Try.prog Γ_fusem := SpecOK.upd o_steps s_fusem

/-! ### flush -/

noncomputable def ish_flush : FSh := ⟨[.v false [.p 0 0], .v false [.k (.n .i64)], .v false [.k (.n .i64)]], [.cells [.sw 1 25, .k .b, .k .b, .k (.n .i64), .k (.n .i64)], .nrows [.n .u64, .n .u64, .n .u64, .n .u64, .n .u64, .n .u64, .n .u64, .n .u64, .n .u64, .n .u64, .n .u64, .n .u64, .n .u64, .n .u64, .n .u64, .n .u64, .n .i64, .n .i64, .n .i64, .n .i64, .n .i64, .n .i64, .n .i64, .n .i64, .n .i64] 16 [.n .i64, .n .u64] 2 false true, .no]⟩
noncomputable def osh_flush : FSh := ⟨[.v false [.k (.n .i64)]], [.cells [.sw 1 25, .k .b, .k .b, .k (.n .i64), .k (.n .i64)], .nrows [.n .u64, .n .u64, .n .u64, .n .u64, .n .u64, .n .u64, .n .u64, .n .u64, .n .u64, .n .u64, .n .u64, .n .u64, .n .u64, .n .u64, .n .u64, .n .u64, .n .i64, .n .i64, .n .i64, .n .i64, .n .i64, .n .i64, .n .i64, .n .i64, .n .i64] 16 [.n .i64, .n .u64] 3 false true, .no, .no]⟩
noncomputable def flush_c0 (x1 : Int) (n6 : Nat) : Bool := Decidable.decide (x1 ≥ (↑n6 : Int))
noncomputable def T_flush (x0 : Int) (x1 : Int) (x2 : Bool) (x3 : Bool) (x4 : Int) (x5 : Int) (n6 : Nat) (g6 : Nat → Nat → Int) (h6 : Nat → Nat → Int) : Tr (List At) :=
 .br 7 (Decidable.decide (x1 < (0 : Int)))
 (.br 18 (Bool.true)
 (.ok [(.i ((1 : Int))), (.b (x2)), (.b (x3)), (.i (x4)), (.i (x5)), (.q (n6) (g6) ((16 : Nat)) ((2 : Nat)) (h6))])
 (.br 21 (Decidable.decide (x0 ≥ (8 : Int)))
 (.ok [(.i ((1 : Int))), (.b (x2)), (.b (x3)), (.i (x4)), (.i (x5)), (.q (n6) (g6) ((16 : Nat)) ((2 : Nat)) (h6))])
 (.br 0 (pdec (x3 = Bool.true → (0 : Int) ≤ x4 ∧ x4 ≤ (9223372036854775807 : Int)))
 (.br 0 (pdec ((0 : Int) ≤ x5 ∧ x5 ≤ (1000000000 : Int)))
 (.br 25 (codeI x2 x3 x4 != (0 : Int))
 (.ok [(.i (codeI x2 x3 x4)), (.b (offB x2 x3 x4)), (.b (x3)), (.i (leftI x2 x3 x4)), (.i (stepsI x2 x3 x4 x5)), (.q (n6) (g6) ((16 : Nat)) ((2 : Nat)) (h6))])
 (.no))
 (.no))
 (.no))))
 (.br 15 ((flush_c0 x1 n6))
 (.br 18 (Bool.true)
 (.ok [(.i ((1 : Int))), (.b (x2)), (.b (x3)), (.i (x4)), (.i (x5)), (.q (n6) (g6) ((16 : Nat)) ((2 : Nat)) (h6))])
 (.br 21 (Decidable.decide (x0 ≥ (8 : Int)))
 (.ok [(.i ((1 : Int))), (.b (x2)), (.b (x3)), (.i (x4)), (.i (x5)), (.q (n6) (g6) ((16 : Nat)) ((2 : Nat)) (h6))])
 (.br 0 (pdec (x3 = Bool.true → (0 : Int) ≤ x4 ∧ x4 ≤ (9223372036854775807 : Int)))
 (.br 0 (pdec ((0 : Int) ≤ x5 ∧ x5 ≤ (1000000000 : Int)))
 (.br 25 (codeI x2 x3 x4 != (0 : Int))
 (.ok [(.i (codeI x2 x3 x4)), (.b (offB x2 x3 x4)), (.b (x3)), (.i (leftI x2 x3 x4)), (.i (stepsI x2 x3 x4 x5)), (.q (n6) (g6) ((16 : Nat)) ((2 : Nat)) (h6))])
 (.no))
 (.no))
 (.no))))
 (.br 21 (Go.AM.within x1 n6)
 (.br 18 (Decidable.decide (x0 < (0 : Int)))
 (.ok [(.i ((1 : Int))), (.b (x2)), (.b (x3)), (.i (x4)), (.i (x5)), (.q (n6) (g6) ((16 : Nat)) ((2 : Nat)) (h6))])
 (.br 21 (Decidable.decide (x0 ≥ (8 : Int)))
 (.ok [(.i ((1 : Int))), (.b (x2)), (.b (x3)), (.i (x4)), (.i (x5)), (.q (n6) (g6) ((16 : Nat)) ((2 : Nat)) (h6))])
 (.br 0 (pdec (x3 = Bool.true → (0 : Int) ≤ x4 ∧ x4 ≤ (9223372036854775807 : Int)))
 (.br 0 (pdec ((0 : Int) ≤ x5 ∧ x5 ≤ (1000000000 : Int)))
 (.br 25 (codeI x2 x3 x4 != (0 : Int))
 (.ok [(.i (codeI x2 x3 x4)), (.b (offB x2 x3 x4)), (.b (x3)), (.i (leftI x2 x3 x4)), (.i (stepsI x2 x3 x4 x5)), (.q (n6) (g6) ((16 : Nat)) ((2 : Nat)) (h6))])
 (.br 200036 (Go.AM.within x0 (8 : Nat))
 (.ok [(.i ((0 : Int))), (.b (offB x2 x3 x4)), (.b (x3)), (.i (leftI x2 x3 x4)), (.i (stepsI x2 x3 x4 x5)), (.q (n6) (Go.AM.updG g6 (Int.toNat x1) ((17 : Nat) + Int.toNat x0 * (1 : Nat)) (↑(Int.toNat (g6 (Int.toNat x1) (16 : Nat))) : Int)) ((16 : Nat)) ((2 : Nat)) (h6))])
 (.no)))
 (.no))
 (.no))))
 (.no)))
noncomputable def y_flush : Nat → Option Nat := (syOf3 [7, 15, 21, 18, 25] [] [36])
noncomputable def TL_flush (l : List At) : Tr (List At) := T_flush (aI l 0) (aI l 1) (aB l 2) (aB l 3) (aI l 4) (aI l 5) (aRn l 6) (aRg l 6) (aMh l 6 16 2)
theorem e_flush (l : List At) : (call Try.prog Γ_fusem y_flush noLoops 100 Try.f36 (mkV ish_flush l) (mkH ish_flush l)).bind (leafO 3 osh_flush) = TL_flush l := by kernel_rfl
noncomputable def F_flush : List At → Tr (List At) := TL_flush
theorem s_flush : SpecF Try.prog 36 (.eff (locF ish_flush osh_flush F_flush)) :=
  spec_loc (sy := y_flush) (fuel := 100) (Lp := noLoops) o_fusem mixed ⟨Try.func36, by kernel_rfl, by kernel_rfl⟩ ish_flush osh_flush (noLoops_ok _) (hT_ways e_flush)
noncomputable def Γ_flush : Specs := upd Γ_fusem 36 (.eff (locF ish_flush osh_flush F_flush))
theorem o_flush : SpecOK Try.prog Γ_flush := SpecOK.upd o_fusem s_flush

/-! ### new -/

noncomputable def ish_new : FSh := ⟨[.v false [.k (.n .i64)]], []⟩
noncomputable def oshs_new : List FSh := [⟨[.tup [(false, [.p 0 0]), (false, [.k (.n .i64)])]], [.cells [.sw 1 25, .k .b, .k .b, .k (.n .i64), .k (.n .i64)], .nrows [.n .u64, .n .u64, .n .u64, .n .u64, .n .u64, .n .u64, .n .u64, .n .u64, .n .u64, .n .u64, .n .u64, .n .u64, .n .u64, .n .u64, .n .u64, .n .u64, .n .i64, .n .i64, .n .i64, .n .i64, .n .i64, .n .i64, .n .i64, .n .i64, .n .i64] 16 [.n .i64, .n .u64] 2 false true, .no]⟩, ⟨[.tup [(false, [.pnil]), (false, [.k (.n .i64)])]], []⟩]
noncomputable def T_new (x0 : Int) : Tr (Nat × List At) :=
 .br 6 (Decidable.decide (x0 < (64 : Int)))
 (.ok ((1 : Nat), [(.i ((1 : Int)))]))
 (.br 9 (Decidable.decide (x0 > (1024 : Int)))
 (.ok ((1 : Nat), [(.i ((1 : Int)))]))
 (.br 11 (Decidable.decide ((0 : Int) ≤ x0) && x0 == x0 && Decidable.decide (x0 ≤ (1073741824 : Int)))
 (.ok ((0 : Nat), [(.i ((0 : Int))), (.b (Bool.false)), (.b (Bool.false)), (.i ((0 : Int))), (.i ((0 : Int))), (.q (Int.toNat x0) (fun (_ _ : Nat) => (0 : Int)) ((16 : Nat)) ((2 : Nat)) (fun (_ _ : Nat) => (0 : Int)))]))
 (.no)))
noncomputable def y_new : Nat → Option Nat := (syOf3 [6, 9, 11] [] [])
noncomputable def TL_new (l : List At) : Tr (Nat × List At) := T_new (aI l 0)
theorem e_new (l : List At) : (call Try.prog Γ_flush y_new noLoops 100 Try.f21 (mkV ish_new l) (mkH ish_new l)).bind (leafOs 0 0 oshs_new) = TL_new l := by kernel_rfl
noncomputable def F_new : List At → Tr (Nat × List At) := TL_new
theorem s_new : SpecF Try.prog 21 (.eff (locFs ish_new oshs_new F_new)) :=
  spec_locs (sy := y_new) (fuel := 100) (Lp := noLoops) o_flush mixed ⟨Try.func21, by kernel_rfl, by kernel_rfl⟩ ish_new oshs_new (noLoops_ok _) (hT_waysS e_new)
noncomputable def Γ_new : Specs := upd Γ_flush 21 (.eff (locFs ish_new oshs_new F_new))
theorem o_new : SpecOK Try.prog Γ_new := SpecOK.upd o_flush s_new

/-! ### next -/

noncomputable def ish_next : FSh := ⟨[.v false [.p 0 0]], [.cells [.sq 1 1], .rows [.n .i64] false]⟩
noncomputable def osh_next : FSh := ⟨[.v false [.k (.n .i64)]], [.cells [.sq 1 1], .rows [.n .i64] false]⟩
noncomputable def T_next (x0 : Nat) (x1 : Nat) (n2 : Nat) (g2 : Nat → Nat → Int) : Tr (List At) :=
 .br 5 ((↑x1 : Int) == (0 : Int))
 (.ok [(.i ((0 : Int))), (.n (x0)), (.n (x1)), (.r (n2) (g2))])
 (.br 7 (Go.AM.within (0 : Int) x1)
 (.br 10 (Bool.true && Decidable.decide ((1 : Int) ≤ (↑x1 : Int)))
 (.br 12 (Decidable.decide (g2 (x0 + (0 : Nat)) (0 : Nat) < (0 : Int)))
 (.ok [(.i (Go.IntKind.wrap Go.IntKind.i64 ((0 : Int) - Go.IntKind.wrap Go.IntKind.i64 (g2 (x0 + (0 : Nat)) (0 : Nat) + (1 : Int))))), (.n (x0 + (1 : Nat))), (.n (Int.toNat (↑x1 : Int) - (1 : Nat))), (.r (n2) (g2))])
 (.ok [(.i (g2 (x0 + (0 : Nat)) (0 : Nat))), (.n (x0 + (1 : Nat))), (.n (Int.toNat (↑x1 : Int) - (1 : Nat))), (.r (n2) (g2))]))
 (.no))
 (.no))
noncomputable def y_next : Nat → Option Nat := (syOf3 [5, 7, 10, 12] [] [])
noncomputable def TL_next (l : List At) : Tr (List At) := T_next (aN l 0) (aN l 1) (aRn l 2) (aRg l 2)
theorem e_next (l : List At) : (call Try.prog Γ_new y_next noLoops 100 Try.f39 (mkV ish_next l) (mkH ish_next l)).bind (leafO 2 osh_next) = TL_next l := by kernel_rfl
noncomputable def F_next : List At → Tr (List At) := TL_next
theorem s_next : SpecF Try.prog 39 (.eff (locF ish_next osh_next F_next)) :=
  spec_loc (sy := y_next) (fuel := 100) (Lp := noLoops) o_new mixed ⟨Try.func39, by kernel_rfl, by kernel_rfl⟩ ish_next osh_next (noLoops_ok _) (hT_ways e_next)
noncomputable def Γ_next : Specs := upd Γ_new 39 (.eff (locF ish_next osh_next F_next))
theorem o_next : SpecOK Try.prog Γ_next := SpecOK.upd o_new s_next

end Go.Proofs.Ytgmhggipaopoiaa.G
end

/-
  What functions of the seat compute, printed by a program from the explorer.
-/
section
namespace Go.Proofs.Ytgmhggipaopoiaa.G
open Go Go.AM Go.Proofs
/-! ### the loop at 7 of fence -/

noncomputable def lsh_fence_7 : FSh := ⟨[.v false [.p 0 0], .v false [.k (.n .i64)], .any, .any, .any, .any, .any, .any, .any, .any, .any, .any, .any, .any, .any, .any, .any, .any, .any, .any, .any, .any, .any, .v false [.k (.n .i64)], .v false [.k (.n .i64)], .any, .any, .any, .any, .any, .any, .any, .any, .any, .any, .any, .any, .any, .any, .any, .any, .any, .any, .any, .any, .any, .any, .any, .any], [.cells [.sw 1 25, .k .b, .k .b, .k (.n .i64), .k (.n .i64)], .nrows [.n .u64, .n .u64, .n .u64, .n .u64, .n .u64, .n .u64, .n .u64, .n .u64, .n .u64, .n .u64, .n .u64, .n .u64, .n .u64, .n .u64, .n .u64, .n .u64, .n .i64, .n .i64, .n .i64, .n .i64, .n .i64, .n .i64, .n .i64, .n .i64, .n .i64] 16 [.n .i64, .n .u64] 3 false true, .no, .no]⟩
noncomputable def xsh_fence_7_0 : FSh := ⟨[.any, .any, .any, .any, .any, .any, .any, .any, .any, .any, .any, .any, .any, .any, .any, .any, .any, .any, .any, .any, .any, .any, .any, .any, .any, .any, .any, .any, .any, .any, .any, .any, .any, .any, .any, .any, .any, .any, .any, .any, .any, .any, .any, .any, .any, .any, .any, .any, .any], [.cells [.sw 1 25, .k .b, .k .b, .k (.n .i64), .k (.n .i64)], .nrows [.n .u64, .n .u64, .n .u64, .n .u64, .n .u64, .n .u64, .n .u64, .n .u64, .n .u64, .n .u64, .n .u64, .n .u64, .n .u64, .n .u64, .n .u64, .n .u64, .n .i64, .n .i64, .n .i64, .n .i64, .n .i64, .n .i64, .n .i64, .n .i64, .n .i64] 16 [.n .i64, .n .u64] 3 false true, .no, .no]⟩
noncomputable def xs_fence_7 : Exs := fun e => match e with
  | .normal => some lsh_fence_7
  | .exit n => (match Nat.beq n 0 with | true => some xsh_fence_7_0 | false => none)
  | .ret => none
noncomputable def B_fence_7 (x0 : Int) (x1 : Int) (x2 : Int) (x3 : Bool) (x4 : Bool) (x5 : Int) (x6 : Int) (n7 : Nat) (g7 : Nat → Nat → Int) (h7 : Nat → Nat → Int) : Tr (Ex × List At) :=
 .br 25 (Decidable.decide (x2 < x1))
 (.br 32 (Go.AM.within x2 n7)
 (.br 200037 (Go.AM.within x0 (8 : Nat))
 (.br 39 (Decidable.decide (g7 (Int.toNat x2) ((17 : Nat) + Int.toNat x0 * (1 : Nat)) > (0 : Int)))
 (.br 200045 (Go.AM.within x0 (8 : Nat))
 (.br 0 (pdec (RowOk (g7 (Int.toNat x2)) (h7 (Int.toNat x2)) ∧ (0 : Int) ≤ g7 (Int.toNat x2) ((17 : Nat) + Int.toNat x0 * (1 : Nat)) ∧ g7 (Int.toNat x2) ((17 : Nat) + Int.toNat x0 * (1 : Nat)) ≤ g7 (Int.toNat x2) (16 : Nat)))
 (.ok (.normal, [(.i (x0)), (.i (x1)), (.i (Go.IntKind.wrap Go.IntKind.i64 (x2 + (1 : Int)))), (.b (x3)), (.b (x4)), (.i (x5)), (.i (x6)), (.q (n7) (updR g7 (Int.toNat x2) (rowS (g7 (Int.toNat x2)) (h7 (Int.toNat x2)) (Int.toNat (g7 (Int.toNat x2) ((17 : Nat) + Int.toNat x0 * (1 : Nat)))))) ((16 : Nat)) ((2 : Nat)) (updR h7 (Int.toNat x2) (hS (h7 (Int.toNat x2)) (Int.toNat (g7 (Int.toNat x2) ((17 : Nat) + Int.toNat x0 * (1 : Nat)))))))]))
 (.no))
 (.no))
 (.ok (.normal, [(.i (x0)), (.i (x1)), (.i (Go.IntKind.wrap Go.IntKind.i64 (x2 + (1 : Int)))), (.b (x3)), (.b (x4)), (.i (x5)), (.i (x6)), (.q (n7) (g7) ((16 : Nat)) ((2 : Nat)) (h7))])))
 (.no))
 (.no))
 (.ok (.exit 0, [(.b (x3)), (.b (x4)), (.i (x5)), (.i (x6)), (.q (n7) (g7) ((16 : Nat)) ((2 : Nat)) (h7))]))
noncomputable def y_fence_7 : Nat → Option Nat := (syOf3 [25, 32, 39] [] [37, 45])
noncomputable def BL_fence_7 (l : List At) : Tr (Ex × List At) := B_fence_7 (aI l 0) (aI l 1) (aI l 2) (aB l 3) (aB l 4) (aI l 5) (aI l 6) (aRn l 7) (aRg l 7) (aMh l 7 16 2)
theorem eB_fence_7 (l : List At) : (exec Try.prog Γ_next y_fence_7 noLoops 100 (loopAt Try.f37 7) ⟨mkV lsh_fence_7 l, mkH lsh_fence_7 l⟩).bind (leafL 3 xs_fence_7) = BL_fence_7 l := by kernel_rfl
/- by hand: O_fence_7 (x0 : Int) (x1 : Int) (x2 : Int) (x3 : Bool) (x4 : Bool) (x5 : Int) (x6 : Int) (n7 : Nat) (g7 : Nat → Nat → Int) (h7 : Nat → Nat → Int) : Tr (Ex × List At); OL_fence_7 (l) := O_fence_7 (aI l 0) (aI l 1) (aI l 2) (aB l 3) (aB l 4) (aI l 5) (aI l 6) (aRn l 7) (aRg l 7) (aMh l 7 16 2); μ_fence_7 : List At → Nat; rd_fence_7 : ∀ l r, (OL_fence_7 l).val = some r → RoundA BL_fence_7 OL_fence_7 μ_fence_7 l r -/

end Go.Proofs.Ytgmhggipaopoiaa.G
end

/-
  The loop of Fence: what is flushed becomes sure, row by row.
-/
section
namespace Go.Proofs.Ytgmhggipaopoiaa.G
open Go Go.AM Go.Proofs

def preF (x0 x1 x2 : Int) (n : Nat) (g h : Nat → Nat → Int) : Prop :=
  0 ≤ x0 ∧ x0 < 8 ∧ 0 ≤ x2 ∧ x2 ≤ x1 ∧ x1 = n ∧ n ≤ 1073741824 ∧ ∀ i, x2.toNat ≤ i → i < n → RowOk (g i) (h i)

noncomputable def O_fence_7 (x0 x1 x2 : Int) (x3 x4 : Bool) (x5 x6 : Int) (n7 : Nat) (g7 h7 : Nat → Nat → Int) : Tr (Ex × List At) :=
  .br 0 (pdec (preF x0 x1 x2 n7 g7 h7)) (.ok (.exit 0, [.b x3, .b x4, .i x5, .i x6, .q n7 (feG n7 g7 h7 (17 + x0.toNat) x2.toNat) 16 2 (feH n7 g7 h7 (17 + x0.toNat) x2.toNat)])) .no
noncomputable def OL_fence_7 (l : List At) : Tr (Ex × List At) := O_fence_7 (aI l 0) (aI l 1) (aI l 2) (aB l 3) (aB l 4) (aI l 5) (aI l 6) (aRn l 7) (aRg l 7) (aMh l 7 16 2)
def μ_fence_7 (l : List At) : Nat := (aI l 1 - aI l 2).toNat

theorem fe_step {n : Nat} {g h : Nat → Nat → Int} {k a : Nat} (ha : a < n) (hk : g a k > 0) :
    feG n (updR g a (rowS (g a) (h a) (g a k).toNat)) (updR h a (hS (h a) (g a k).toNat)) k (a + 1) = feG n g h k a ∧ feH n (updR g a (rowS (g a) (h a) (g a k).toNat)) (updR h a (hS (h a) (g a k).toNat)) k (a + 1) = feH n g h k a := by
  refine ⟨funext fun j => ?_, funext fun j => ?_⟩
  all_goals
    first | unfold feG | unfold feH
    by_cases hj : j = a
    · subst hj
      rw [if_neg (by omega), updR_self, if_pos ⟨Nat.le_refl _, ha, hk⟩]
    · rw [updR_ne hj, updR_ne hj]
      by_cases hc : a ≤ j ∧ j < n ∧ g j k > 0
      · rw [if_pos ⟨by omega, hc.2⟩, if_pos hc]
      · rw [if_neg (fun hh => hc ⟨by omega, hh.2⟩), if_neg hc]

theorem fe_skip {n : Nat} {g h : Nat → Nat → Int} {k a : Nat} (hk : ¬ g a k > 0) : feG n g h k (a + 1) = feG n g h k a ∧ feH n g h k (a + 1) = feH n g h k a := by
  refine ⟨funext fun j => ?_, funext fun j => ?_⟩
  all_goals
    first | unfold feG | unfold feH
    by_cases hj : j = a
    · subst hj
      rw [if_neg (by omega), if_neg (fun hh => hk hh.2.2)]
    · by_cases hc : a ≤ j ∧ j < n ∧ g j k > 0
      · rw [if_pos ⟨by omega, hc.2⟩, if_pos hc]
      · rw [if_neg (fun hh => hc ⟨by omega, hh.2⟩), if_neg hc]

theorem fe_end {n : Nat} {g h : Nat → Nat → Int} {k a : Nat} (ha : n ≤ a) : feG n g h k a = g ∧ feH n g h k a = h :=
  ⟨funext fun j => if_neg (by omega), funext fun j => if_neg (by omega)⟩

theorem rd_fence_7 : ∀ l r, (OL_fence_7 l).val = some r → RoundS BL_fence_7 OL_fence_7 μ_fence_7 l r := by
  intro l r h
  obtain ⟨hc, h⟩ := guard_val h
  obtain ⟨c0, c1, c2, c3, c4, c5, c6⟩ := of_pdec hc
  have hr := val_ok h
  unfold RoundS BL_fence_7 B_fence_7
  generalize hx0 : aI l 0 = x0 at *
  generalize hx1 : aI l 1 = x1 at *
  generalize hx2 : aI l 2 = x2 at *
  generalize hn : aRn l 7 = n at *
  generalize hg : aRg l 7 = g at *
  generalize hh : aMh l 7 16 2 = hm at *
  refine brD (fun h1 => brW (fun _ => brW (fun _ => ?_) (fun hh => by exfalso; omega)) (fun hh => by exfalso; omega)) (fun h1 => ?_)
  · have hw : IntKind.i64.wrap (x2 + 1) = x2 + 1 := wrap_i64 (by omega) (by omega)
    have e2 : (x2 + 1).toNat = x2.toNat + 1 := by omega
    have hμ : (x1 - (x2 + 1)).toNat < μ_fence_7 l := by unfold μ_fence_7; rw [hx1, hx2]; omega
    rw [hw, Nat.mul_one]
    refine brD (fun h2 => brW (fun _ => ?_) (fun hh => by exfalso; omega)) (fun h2 => ?_)
    · have ho := c6 x2.toNat (Nat.le_refl _) (by omega)
      have ho3 := ho.2.2.1 (17 + x0.toNat) (by omega) (by omega)
      refine brT (pdec_yes ⟨ho, by omega, ho3.2⟩) ?_
      obtain ⟨k1, k2⟩ := fe_step (n := n) (g := g) (h := hm) (k := 17 + x0.toNat) (a := x2.toNat) (by omega) h2
      generalize hg' : updR g x2.toNat (rowS (g x2.toNat) (hm x2.toNat) (g x2.toNat (17 + x0.toNat)).toNat) = g' at *
      generalize hh' : updR hm x2.toNat (hS (hm x2.toNat) (g x2.toNat (17 + x0.toNat)).toNat) = h' at *
      have hq : preF x0 x1 (x2 + 1) n g' h' := ⟨c0, c1, by omega, by omega, c4, c5, fun i h5 h6 => by
        rw [← hg', ← hh', updR_ne (by omega), updR_ne (by omega)]
        exact c6 i (by omega) h6⟩
      rw [← k1, ← k2, ← e2] at h
      exact on_ _ r (AtsEq.refl _) hμ ((br_t (g := 0) (pdec_yes hq)).trans h) rfl (AtsEq.refl _)
    · obtain ⟨k1, k2⟩ := fe_skip (n := n) (g := g) (h := hm) (k := 17 + x0.toNat) (a := x2.toNat) h2
      have hq : preF x0 x1 (x2 + 1) n g hm := ⟨c0, c1, by omega, by omega, c4, c5, fun i h5 h6 => c6 i (by omega) h6⟩
      rw [← k1, ← k2, ← e2] at h
      exact on_ _ r (AtsEq.refl _) hμ ((br_t (g := 0) (pdec_yes hq)).trans h) rfl (AtsEq.refl _)
  · subst hr
    obtain ⟨k1, k2⟩ := fe_end (n := n) (g := g) (h := hm) (k := 17 + x0.toNat) (a := x2.toNat) (by omega)
    refine out_ (by simp) rfl ?_
    show AtsEq _ [_, _, _, _, At.q n (feG n g hm (17 + x0.toNat) x2.toNat) 16 2 (feH n g hm (17 + x0.toNat) x2.toNat)]
    rw [k1, k2]
    exact AtsEq.refl _
end Go.Proofs.Ytgmhggipaopoiaa.G
end

/-
  What functions of the seat compute, printed by a program from the explorer.
-/
section
namespace Go.Proofs.Ytgmhggipaopoiaa.G
open Go Go.AM Go.Proofs
theorem f_fence_7 : LoopF Try.prog 3 (loopAt Try.f37 7) (loopFn 3 lsh_fence_7 xs_fence_7 OL_fence_7) :=
  loop_sat (sy := y_fence_7) (fuel := 100) (Lp := noLoops) o_next mixed (loopsOK_at (noLoops_ok _) 7) rfl eB_fence_7 rd_fence_7
noncomputable def Lp_fence_7 : Loops := Loops.set noLoops 7 (loopFn 3 lsh_fence_7 xs_fence_7 OL_fence_7)
theorem lk_fence_7 : LoopsFn Try.prog 3 Lp_fence_7 Try.f37 := loopsFn_set (noLoops_ok _) (by kernel_rfl) f_fence_7

/-! ### fence -/

noncomputable def ish_fence : FSh := ⟨[.v false [.p 0 0], .v false [.k (.n .i64)]], [.cells [.sw 1 25, .k .b, .k .b, .k (.n .i64), .k (.n .i64)], .nrows [.n .u64, .n .u64, .n .u64, .n .u64, .n .u64, .n .u64, .n .u64, .n .u64, .n .u64, .n .u64, .n .u64, .n .u64, .n .u64, .n .u64, .n .u64, .n .u64, .n .i64, .n .i64, .n .i64, .n .i64, .n .i64, .n .i64, .n .i64, .n .i64, .n .i64] 16 [.n .i64, .n .u64] 2 false true, .no]⟩
noncomputable def osh_fence : FSh := ⟨[.v false [.k (.n .i64)]], [.cells [.sw 1 25, .k .b, .k .b, .k (.n .i64), .k (.n .i64)], .nrows [.n .u64, .n .u64, .n .u64, .n .u64, .n .u64, .n .u64, .n .u64, .n .u64, .n .u64, .n .u64, .n .u64, .n .u64, .n .u64, .n .u64, .n .u64, .n .u64, .n .i64, .n .i64, .n .i64, .n .i64, .n .i64, .n .i64, .n .i64, .n .i64, .n .i64] 16 [.n .i64, .n .u64] 3 false true, .no, .no]⟩
noncomputable def T_fence (x0 : Int) (x1 : Bool) (x2 : Bool) (x3 : Int) (x4 : Int) (n5 : Nat) (g5 : Nat → Nat → Int) (h5 : Nat → Nat → Int) : Tr (List At) :=
 .br 10 (Decidable.decide (x0 < (0 : Int)))
 (.ok [(.i ((1 : Int))), (.b (x1)), (.b (x2)), (.i (x3)), (.i (x4)), (.q (n5) (g5) ((16 : Nat)) ((2 : Nat)) (h5))])
 (.br 13 (Decidable.decide (x0 ≥ (8 : Int)))
 (.ok [(.i ((1 : Int))), (.b (x1)), (.b (x2)), (.i (x3)), (.i (x4)), (.q (n5) (g5) ((16 : Nat)) ((2 : Nat)) (h5))])
 (.br 0 (pdec (x2 = Bool.true → (0 : Int) ≤ x3 ∧ x3 ≤ (9223372036854775807 : Int)))
 (.br 0 (pdec ((0 : Int) ≤ x4 ∧ x4 ≤ (1000000000 : Int)))
 (.br 17 (codeI x1 x2 x3 != (0 : Int))
 (.ok [(.i (codeI x1 x2 x3)), (.b (offB x1 x2 x3)), (.b (x2)), (.i (leftI x1 x2 x3)), (.i (stepsI x1 x2 x3 x4)), (.q (n5) (g5) ((16 : Nat)) ((2 : Nat)) (h5))])
 (.br 0 (pdec (preF x0 (↑n5 : Int) (0 : Int) n5 g5 h5))
 (.ok [(.i ((0 : Int))), (.b (offB x1 x2 x3)), (.b (x2)), (.i (leftI x1 x2 x3)), (.i (stepsI x1 x2 x3 x4)), (.q (n5) (feG n5 g5 h5 ((17 : Nat) + Int.toNat x0) (0 : Nat)) ((16 : Nat)) ((2 : Nat)) (feH n5 g5 h5 ((17 : Nat) + Int.toNat x0) (0 : Nat)))])
 (.no)))
 (.no))
 (.no)))
noncomputable def y_fence : Nat → Option Nat := (syOf3 [10, 13, 17] [] [])
noncomputable def TL_fence (l : List At) : Tr (List At) := T_fence (aI l 0) (aB l 1) (aB l 2) (aI l 3) (aI l 4) (aRn l 5) (aRg l 5) (aMh l 5 16 2)
theorem e_fence (l : List At) : (call Try.prog Γ_next y_fence Lp_fence_7 100 Try.f37 (mkV ish_fence l) (mkH ish_fence l)).bind (leafO 3 osh_fence) = TL_fence l := by kernel_rfl
end Go.Proofs.Ytgmhggipaopoiaa.G
end

/-
  What functions of the seat compute, printed by a program from the explorer.
-/
section
namespace Go.Proofs.Ytgmhggipaopoiaa.G
open Go Go.AM Go.Proofs
/-! ### the loop at 3 of crash -/

noncomputable def lsh_crash_3 : FSh := ⟨[.v false [.p 0 0], .any, .any, .v false [.p 4 0], .v false [.fn 39 [(4, 0)]], .any, .any, .any, .any, .any, .any, .any, .any, .v false [.k (.n .i64)], .v false [.k (.n .i64)], .any, .any, .any, .any, .any, .any, .any, .any, .any, .any, .any, .any, .any, .any, .any, .any, .any, .any, .any, .any, .any, .any, .any, .any, .any, .any, .any, .any, .any, .any, .any, .any, .any, .any, .any, .any, .any, .any, .any, .any, .any, .any, .any], [.cells [.sw 2 25, .k .b, .k .b, .k (.n .i64), .k (.n .i64)], .rows [.n .i64] false, .nrows [.n .u64, .n .u64, .n .u64, .n .u64, .n .u64, .n .u64, .n .u64, .n .u64, .n .u64, .n .u64, .n .u64, .n .u64, .n .u64, .n .u64, .n .u64, .n .u64, .n .i64, .n .i64, .n .i64, .n .i64, .n .i64, .n .i64, .n .i64, .n .i64, .n .i64] 16 [.n .i64, .n .u64] 5 false true, .no, .cells [.sq 1 1], .no]⟩
noncomputable def xsh_crash_3_0 : FSh := ⟨[.v false [.p 0 0], .any, .any, .any, .any, .any, .any, .any, .any, .any, .any, .any, .any, .any, .any, .any, .any, .any, .any, .any, .any, .any, .any, .any, .any, .any, .any, .any, .any, .any, .any, .any, .any, .any, .any, .any, .any, .any, .any, .any, .any, .any, .any, .any, .any, .any, .any, .any, .any, .any, .any, .any, .any, .any, .any, .any, .any, .any], [.cells [.sw 2 25, .k .b, .k .b, .k (.n .i64), .k (.n .i64)], .no, .nrows [.n .u64, .n .u64, .n .u64, .n .u64, .n .u64, .n .u64, .n .u64, .n .u64, .n .u64, .n .u64, .n .u64, .n .u64, .n .u64, .n .u64, .n .u64, .n .u64, .n .i64, .n .i64, .n .i64, .n .i64, .n .i64, .n .i64, .n .i64, .n .i64, .n .i64] 16 [.n .i64, .n .u64] 4 false true, .no, .no]⟩
noncomputable def xs_crash_3 : Exs := fun e => match e with
  | .normal => some lsh_crash_3
  | .exit n => (match Nat.beq n 0 with | true => some xsh_crash_3_0 | false => none)
  | .ret => none
noncomputable def B_crash_3 (x0 : Int) (x1 : Int) (x2 : Bool) (x3 : Bool) (x4 : Int) (x5 : Int) (n6 : Nat) (g6 : Nat → Nat → Int) (n7 : Nat) (g7 : Nat → Nat → Int) (h7 : Nat → Nat → Int) (x8 : Nat) (x9 : Nat) : Tr (Ex × List At) :=
 .br 15 (Decidable.decide (x1 < x0))
 (.br 22 (Go.AM.within x1 n7)
 (.br 29 (Decidable.decide ((↑(Int.toNat (g7 (Int.toNat x1) (16 : Nat))) : Int) > (0 : Int)))
 (.br 5 ((↑x9 : Int) == (0 : Int))
 (.br 35 (Go.IntKind.wrap Go.IntKind.i64 ((↑(Int.toNat (g7 (Int.toNat x1) (16 : Nat))) : Int) + (1 : Int)) != (0 : Int))
 (.br 0 (pdec (RowOk (g7 (Int.toNat x1)) (h7 (Int.toNat x1)) ∧ (0 : Int) ≤ Int.tmod (0 : Int) (Go.IntKind.wrap Go.IntKind.i64 ((↑(Int.toNat (g7 (Int.toNat x1) (16 : Nat))) : Int) + (1 : Int))) ∧ Int.tmod (0 : Int) (Go.IntKind.wrap Go.IntKind.i64 ((↑(Int.toNat (g7 (Int.toNat x1) (16 : Nat))) : Int) + (1 : Int))) ≤ g7 (Int.toNat x1) (16 : Nat)))
 (.br 0 (Bool.true)
 (.ok (.normal, [(.i (x0)), (.i (Go.IntKind.wrap Go.IntKind.i64 (x1 + (1 : Int)))), (.b (x2)), (.b (x3)), (.i (x4)), (.i (x5)), (.r (n6) (g6)), (.q (n7) (Go.AM.updG (Go.AM.updG (Go.AM.updG (Go.AM.updG (Go.AM.updG (Go.AM.updG (Go.AM.updG (Go.AM.updG (Go.AM.updG (Go.AM.updG (Go.AM.updG (Go.AM.updG (Go.AM.updG (Go.AM.updG (Go.AM.updG (Go.AM.updG (Go.AM.updG (updR g7 (Int.toNat x1) (rowS (g7 (Int.toNat x1)) (h7 (Int.toNat x1)) (Int.toNat (Int.tmod (0 : Int) (Go.IntKind.wrap Go.IntKind.i64 ((↑(Int.toNat (g7 (Int.toNat x1) (16 : Nat))) : Int) + (1 : Int))))))) (Int.toNat x1) (0 : Nat) (updR g7 (Int.toNat x1) (rowS (g7 (Int.toNat x1)) (h7 (Int.toNat x1)) (Int.toNat (Int.tmod (0 : Int) (Go.IntKind.wrap Go.IntKind.i64 ((↑(Int.toNat (g7 (Int.toNat x1) (16 : Nat))) : Int) + (1 : Int)))))) (Int.toNat x1) (8 : Nat))) (Int.toNat x1) (1 : Nat) (updR g7 (Int.toNat x1) (rowS (g7 (Int.toNat x1)) (h7 (Int.toNat x1)) (Int.toNat (Int.tmod (0 : Int) (Go.IntKind.wrap Go.IntKind.i64 ((↑(Int.toNat (g7 (Int.toNat x1) (16 : Nat))) : Int) + (1 : Int)))))) (Int.toNat x1) (9 : Nat))) (Int.toNat x1) (2 : Nat) (updR g7 (Int.toNat x1) (rowS (g7 (Int.toNat x1)) (h7 (Int.toNat x1)) (Int.toNat (Int.tmod (0 : Int) (Go.IntKind.wrap Go.IntKind.i64 ((↑(Int.toNat (g7 (Int.toNat x1) (16 : Nat))) : Int) + (1 : Int)))))) (Int.toNat x1) (10 : Nat))) (Int.toNat x1) (3 : Nat) (updR g7 (Int.toNat x1) (rowS (g7 (Int.toNat x1)) (h7 (Int.toNat x1)) (Int.toNat (Int.tmod (0 : Int) (Go.IntKind.wrap Go.IntKind.i64 ((↑(Int.toNat (g7 (Int.toNat x1) (16 : Nat))) : Int) + (1 : Int)))))) (Int.toNat x1) (11 : Nat))) (Int.toNat x1) (4 : Nat) (updR g7 (Int.toNat x1) (rowS (g7 (Int.toNat x1)) (h7 (Int.toNat x1)) (Int.toNat (Int.tmod (0 : Int) (Go.IntKind.wrap Go.IntKind.i64 ((↑(Int.toNat (g7 (Int.toNat x1) (16 : Nat))) : Int) + (1 : Int)))))) (Int.toNat x1) (12 : Nat))) (Int.toNat x1) (5 : Nat) (updR g7 (Int.toNat x1) (rowS (g7 (Int.toNat x1)) (h7 (Int.toNat x1)) (Int.toNat (Int.tmod (0 : Int) (Go.IntKind.wrap Go.IntKind.i64 ((↑(Int.toNat (g7 (Int.toNat x1) (16 : Nat))) : Int) + (1 : Int)))))) (Int.toNat x1) (13 : Nat))) (Int.toNat x1) (6 : Nat) (updR g7 (Int.toNat x1) (rowS (g7 (Int.toNat x1)) (h7 (Int.toNat x1)) (Int.toNat (Int.tmod (0 : Int) (Go.IntKind.wrap Go.IntKind.i64 ((↑(Int.toNat (g7 (Int.toNat x1) (16 : Nat))) : Int) + (1 : Int)))))) (Int.toNat x1) (14 : Nat))) (Int.toNat x1) (7 : Nat) (updR g7 (Int.toNat x1) (rowS (g7 (Int.toNat x1)) (h7 (Int.toNat x1)) (Int.toNat (Int.tmod (0 : Int) (Go.IntKind.wrap Go.IntKind.i64 ((↑(Int.toNat (g7 (Int.toNat x1) (16 : Nat))) : Int) + (1 : Int)))))) (Int.toNat x1) (15 : Nat))) (Int.toNat x1) (16 : Nat) (0 : Int)) (Int.toNat x1) (17 : Nat) (0 : Int)) (Int.toNat x1) (18 : Nat) (0 : Int)) (Int.toNat x1) (19 : Nat) (0 : Int)) (Int.toNat x1) (20 : Nat) (0 : Int)) (Int.toNat x1) (21 : Nat) (0 : Int)) (Int.toNat x1) (22 : Nat) (0 : Int)) (Int.toNat x1) (23 : Nat) (0 : Int)) (Int.toNat x1) (24 : Nat) (0 : Int)) ((16 : Nat)) ((2 : Nat)) (updR h7 (Int.toNat x1) (hS (h7 (Int.toNat x1)) (Int.toNat (Int.tmod (0 : Int) (Go.IntKind.wrap Go.IntKind.i64 ((↑(Int.toNat (g7 (Int.toNat x1) (16 : Nat))) : Int) + (1 : Int)))))))), (.n (x8)), (.n (x9))]))
 (.no))
 (.no))
 (.no))
 (.br 7 (Go.AM.within (0 : Int) x9)
 (.br 10 (Bool.true && Decidable.decide ((1 : Int) ≤ (↑x9 : Int)))
 (.br 12 (Decidable.decide (g6 (x8 + (0 : Nat)) (0 : Nat) < (0 : Int)))
 (.br 35 (Go.IntKind.wrap Go.IntKind.i64 ((↑(Int.toNat (g7 (Int.toNat x1) (16 : Nat))) : Int) + (1 : Int)) != (0 : Int))
 (.br 0 (pdec (RowOk (g7 (Int.toNat x1)) (h7 (Int.toNat x1)) ∧ (0 : Int) ≤ Int.tmod (Go.IntKind.wrap Go.IntKind.i64 ((0 : Int) - Go.IntKind.wrap Go.IntKind.i64 (g6 (x8 + (0 : Nat)) (0 : Nat) + (1 : Int)))) (Go.IntKind.wrap Go.IntKind.i64 ((↑(Int.toNat (g7 (Int.toNat x1) (16 : Nat))) : Int) + (1 : Int))) ∧ Int.tmod (Go.IntKind.wrap Go.IntKind.i64 ((0 : Int) - Go.IntKind.wrap Go.IntKind.i64 (g6 (x8 + (0 : Nat)) (0 : Nat) + (1 : Int)))) (Go.IntKind.wrap Go.IntKind.i64 ((↑(Int.toNat (g7 (Int.toNat x1) (16 : Nat))) : Int) + (1 : Int))) ≤ g7 (Int.toNat x1) (16 : Nat)))
 (.br 0 (Bool.true)
 (.ok (.normal, [(.i (x0)), (.i (Go.IntKind.wrap Go.IntKind.i64 (x1 + (1 : Int)))), (.b (x2)), (.b (x3)), (.i (x4)), (.i (x5)), (.r (n6) (g6)), (.q (n7) (Go.AM.updG (Go.AM.updG (Go.AM.updG (Go.AM.updG (Go.AM.updG (Go.AM.updG (Go.AM.updG (Go.AM.updG (Go.AM.updG (Go.AM.updG (Go.AM.updG (Go.AM.updG (Go.AM.updG (Go.AM.updG (Go.AM.updG (Go.AM.updG (Go.AM.updG (updR g7 (Int.toNat x1) (rowS (g7 (Int.toNat x1)) (h7 (Int.toNat x1)) (Int.toNat (Int.tmod (Go.IntKind.wrap Go.IntKind.i64 ((0 : Int) - Go.IntKind.wrap Go.IntKind.i64 (g6 (x8 + (0 : Nat)) (0 : Nat) + (1 : Int)))) (Go.IntKind.wrap Go.IntKind.i64 ((↑(Int.toNat (g7 (Int.toNat x1) (16 : Nat))) : Int) + (1 : Int))))))) (Int.toNat x1) (0 : Nat) (updR g7 (Int.toNat x1) (rowS (g7 (Int.toNat x1)) (h7 (Int.toNat x1)) (Int.toNat (Int.tmod (Go.IntKind.wrap Go.IntKind.i64 ((0 : Int) - Go.IntKind.wrap Go.IntKind.i64 (g6 (x8 + (0 : Nat)) (0 : Nat) + (1 : Int)))) (Go.IntKind.wrap Go.IntKind.i64 ((↑(Int.toNat (g7 (Int.toNat x1) (16 : Nat))) : Int) + (1 : Int)))))) (Int.toNat x1) (8 : Nat))) (Int.toNat x1) (1 : Nat) (updR g7 (Int.toNat x1) (rowS (g7 (Int.toNat x1)) (h7 (Int.toNat x1)) (Int.toNat (Int.tmod (Go.IntKind.wrap Go.IntKind.i64 ((0 : Int) - Go.IntKind.wrap Go.IntKind.i64 (g6 (x8 + (0 : Nat)) (0 : Nat) + (1 : Int)))) (Go.IntKind.wrap Go.IntKind.i64 ((↑(Int.toNat (g7 (Int.toNat x1) (16 : Nat))) : Int) + (1 : Int)))))) (Int.toNat x1) (9 : Nat))) (Int.toNat x1) (2 : Nat) (updR g7 (Int.toNat x1) (rowS (g7 (Int.toNat x1)) (h7 (Int.toNat x1)) (Int.toNat (Int.tmod (Go.IntKind.wrap Go.IntKind.i64 ((0 : Int) - Go.IntKind.wrap Go.IntKind.i64 (g6 (x8 + (0 : Nat)) (0 : Nat) + (1 : Int)))) (Go.IntKind.wrap Go.IntKind.i64 ((↑(Int.toNat (g7 (Int.toNat x1) (16 : Nat))) : Int) + (1 : Int)))))) (Int.toNat x1) (10 : Nat))) (Int.toNat x1) (3 : Nat) (updR g7 (Int.toNat x1) (rowS (g7 (Int.toNat x1)) (h7 (Int.toNat x1)) (Int.toNat (Int.tmod (Go.IntKind.wrap Go.IntKind.i64 ((0 : Int) - Go.IntKind.wrap Go.IntKind.i64 (g6 (x8 + (0 : Nat)) (0 : Nat) + (1 : Int)))) (Go.IntKind.wrap Go.IntKind.i64 ((↑(Int.toNat (g7 (Int.toNat x1) (16 : Nat))) : Int) + (1 : Int)))))) (Int.toNat x1) (11 : Nat))) (Int.toNat x1) (4 : Nat) (updR g7 (Int.toNat x1) (rowS (g7 (Int.toNat x1)) (h7 (Int.toNat x1)) (Int.toNat (Int.tmod (Go.IntKind.wrap Go.IntKind.i64 ((0 : Int) - Go.IntKind.wrap Go.IntKind.i64 (g6 (x8 + (0 : Nat)) (0 : Nat) + (1 : Int)))) (Go.IntKind.wrap Go.IntKind.i64 ((↑(Int.toNat (g7 (Int.toNat x1) (16 : Nat))) : Int) + (1 : Int)))))) (Int.toNat x1) (12 : Nat))) (Int.toNat x1) (5 : Nat) (updR g7 (Int.toNat x1) (rowS (g7 (Int.toNat x1)) (h7 (Int.toNat x1)) (Int.toNat (Int.tmod (Go.IntKind.wrap Go.IntKind.i64 ((0 : Int) - Go.IntKind.wrap Go.IntKind.i64 (g6 (x8 + (0 : Nat)) (0 : Nat) + (1 : Int)))) (Go.IntKind.wrap Go.IntKind.i64 ((↑(Int.toNat (g7 (Int.toNat x1) (16 : Nat))) : Int) + (1 : Int)))))) (Int.toNat x1) (13 : Nat))) (Int.toNat x1) (6 : Nat) (updR g7 (Int.toNat x1) (rowS (g7 (Int.toNat x1)) (h7 (Int.toNat x1)) (Int.toNat (Int.tmod (Go.IntKind.wrap Go.IntKind.i64 ((0 : Int) - Go.IntKind.wrap Go.IntKind.i64 (g6 (x8 + (0 : Nat)) (0 : Nat) + (1 : Int)))) (Go.IntKind.wrap Go.IntKind.i64 ((↑(Int.toNat (g7 (Int.toNat x1) (16 : Nat))) : Int) + (1 : Int)))))) (Int.toNat x1) (14 : Nat))) (Int.toNat x1) (7 : Nat) (updR g7 (Int.toNat x1) (rowS (g7 (Int.toNat x1)) (h7 (Int.toNat x1)) (Int.toNat (Int.tmod (Go.IntKind.wrap Go.IntKind.i64 ((0 : Int) - Go.IntKind.wrap Go.IntKind.i64 (g6 (x8 + (0 : Nat)) (0 : Nat) + (1 : Int)))) (Go.IntKind.wrap Go.IntKind.i64 ((↑(Int.toNat (g7 (Int.toNat x1) (16 : Nat))) : Int) + (1 : Int)))))) (Int.toNat x1) (15 : Nat))) (Int.toNat x1) (16 : Nat) (0 : Int)) (Int.toNat x1) (17 : Nat) (0 : Int)) (Int.toNat x1) (18 : Nat) (0 : Int)) (Int.toNat x1) (19 : Nat) (0 : Int)) (Int.toNat x1) (20 : Nat) (0 : Int)) (Int.toNat x1) (21 : Nat) (0 : Int)) (Int.toNat x1) (22 : Nat) (0 : Int)) (Int.toNat x1) (23 : Nat) (0 : Int)) (Int.toNat x1) (24 : Nat) (0 : Int)) ((16 : Nat)) ((2 : Nat)) (updR h7 (Int.toNat x1) (hS (h7 (Int.toNat x1)) (Int.toNat (Int.tmod (Go.IntKind.wrap Go.IntKind.i64 ((0 : Int) - Go.IntKind.wrap Go.IntKind.i64 (g6 (x8 + (0 : Nat)) (0 : Nat) + (1 : Int)))) (Go.IntKind.wrap Go.IntKind.i64 ((↑(Int.toNat (g7 (Int.toNat x1) (16 : Nat))) : Int) + (1 : Int)))))))), (.n (x8 + (1 : Nat))), (.n (Int.toNat (↑x9 : Int) - (1 : Nat)))]))
 (.no))
 (.no))
 (.no))
 (.br 35 (Go.IntKind.wrap Go.IntKind.i64 ((↑(Int.toNat (g7 (Int.toNat x1) (16 : Nat))) : Int) + (1 : Int)) != (0 : Int))
 (.br 0 (pdec (RowOk (g7 (Int.toNat x1)) (h7 (Int.toNat x1)) ∧ (0 : Int) ≤ Int.tmod (g6 (x8 + (0 : Nat)) (0 : Nat)) (Go.IntKind.wrap Go.IntKind.i64 ((↑(Int.toNat (g7 (Int.toNat x1) (16 : Nat))) : Int) + (1 : Int))) ∧ Int.tmod (g6 (x8 + (0 : Nat)) (0 : Nat)) (Go.IntKind.wrap Go.IntKind.i64 ((↑(Int.toNat (g7 (Int.toNat x1) (16 : Nat))) : Int) + (1 : Int))) ≤ g7 (Int.toNat x1) (16 : Nat)))
 (.br 0 (Bool.true)
 (.ok (.normal, [(.i (x0)), (.i (Go.IntKind.wrap Go.IntKind.i64 (x1 + (1 : Int)))), (.b (x2)), (.b (x3)), (.i (x4)), (.i (x5)), (.r (n6) (g6)), (.q (n7) (Go.AM.updG (Go.AM.updG (Go.AM.updG (Go.AM.updG (Go.AM.updG (Go.AM.updG (Go.AM.updG (Go.AM.updG (Go.AM.updG (Go.AM.updG (Go.AM.updG (Go.AM.updG (Go.AM.updG (Go.AM.updG (Go.AM.updG (Go.AM.updG (Go.AM.updG (updR g7 (Int.toNat x1) (rowS (g7 (Int.toNat x1)) (h7 (Int.toNat x1)) (Int.toNat (Int.tmod (g6 (x8 + (0 : Nat)) (0 : Nat)) (Go.IntKind.wrap Go.IntKind.i64 ((↑(Int.toNat (g7 (Int.toNat x1) (16 : Nat))) : Int) + (1 : Int))))))) (Int.toNat x1) (0 : Nat) (updR g7 (Int.toNat x1) (rowS (g7 (Int.toNat x1)) (h7 (Int.toNat x1)) (Int.toNat (Int.tmod (g6 (x8 + (0 : Nat)) (0 : Nat)) (Go.IntKind.wrap Go.IntKind.i64 ((↑(Int.toNat (g7 (Int.toNat x1) (16 : Nat))) : Int) + (1 : Int)))))) (Int.toNat x1) (8 : Nat))) (Int.toNat x1) (1 : Nat) (updR g7 (Int.toNat x1) (rowS (g7 (Int.toNat x1)) (h7 (Int.toNat x1)) (Int.toNat (Int.tmod (g6 (x8 + (0 : Nat)) (0 : Nat)) (Go.IntKind.wrap Go.IntKind.i64 ((↑(Int.toNat (g7 (Int.toNat x1) (16 : Nat))) : Int) + (1 : Int)))))) (Int.toNat x1) (9 : Nat))) (Int.toNat x1) (2 : Nat) (updR g7 (Int.toNat x1) (rowS (g7 (Int.toNat x1)) (h7 (Int.toNat x1)) (Int.toNat (Int.tmod (g6 (x8 + (0 : Nat)) (0 : Nat)) (Go.IntKind.wrap Go.IntKind.i64 ((↑(Int.toNat (g7 (Int.toNat x1) (16 : Nat))) : Int) + (1 : Int)))))) (Int.toNat x1) (10 : Nat))) (Int.toNat x1) (3 : Nat) (updR g7 (Int.toNat x1) (rowS (g7 (Int.toNat x1)) (h7 (Int.toNat x1)) (Int.toNat (Int.tmod (g6 (x8 + (0 : Nat)) (0 : Nat)) (Go.IntKind.wrap Go.IntKind.i64 ((↑(Int.toNat (g7 (Int.toNat x1) (16 : Nat))) : Int) + (1 : Int)))))) (Int.toNat x1) (11 : Nat))) (Int.toNat x1) (4 : Nat) (updR g7 (Int.toNat x1) (rowS (g7 (Int.toNat x1)) (h7 (Int.toNat x1)) (Int.toNat (Int.tmod (g6 (x8 + (0 : Nat)) (0 : Nat)) (Go.IntKind.wrap Go.IntKind.i64 ((↑(Int.toNat (g7 (Int.toNat x1) (16 : Nat))) : Int) + (1 : Int)))))) (Int.toNat x1) (12 : Nat))) (Int.toNat x1) (5 : Nat) (updR g7 (Int.toNat x1) (rowS (g7 (Int.toNat x1)) (h7 (Int.toNat x1)) (Int.toNat (Int.tmod (g6 (x8 + (0 : Nat)) (0 : Nat)) (Go.IntKind.wrap Go.IntKind.i64 ((↑(Int.toNat (g7 (Int.toNat x1) (16 : Nat))) : Int) + (1 : Int)))))) (Int.toNat x1) (13 : Nat))) (Int.toNat x1) (6 : Nat) (updR g7 (Int.toNat x1) (rowS (g7 (Int.toNat x1)) (h7 (Int.toNat x1)) (Int.toNat (Int.tmod (g6 (x8 + (0 : Nat)) (0 : Nat)) (Go.IntKind.wrap Go.IntKind.i64 ((↑(Int.toNat (g7 (Int.toNat x1) (16 : Nat))) : Int) + (1 : Int)))))) (Int.toNat x1) (14 : Nat))) (Int.toNat x1) (7 : Nat) (updR g7 (Int.toNat x1) (rowS (g7 (Int.toNat x1)) (h7 (Int.toNat x1)) (Int.toNat (Int.tmod (g6 (x8 + (0 : Nat)) (0 : Nat)) (Go.IntKind.wrap Go.IntKind.i64 ((↑(Int.toNat (g7 (Int.toNat x1) (16 : Nat))) : Int) + (1 : Int)))))) (Int.toNat x1) (15 : Nat))) (Int.toNat x1) (16 : Nat) (0 : Int)) (Int.toNat x1) (17 : Nat) (0 : Int)) (Int.toNat x1) (18 : Nat) (0 : Int)) (Int.toNat x1) (19 : Nat) (0 : Int)) (Int.toNat x1) (20 : Nat) (0 : Int)) (Int.toNat x1) (21 : Nat) (0 : Int)) (Int.toNat x1) (22 : Nat) (0 : Int)) (Int.toNat x1) (23 : Nat) (0 : Int)) (Int.toNat x1) (24 : Nat) (0 : Int)) ((16 : Nat)) ((2 : Nat)) (updR h7 (Int.toNat x1) (hS (h7 (Int.toNat x1)) (Int.toNat (Int.tmod (g6 (x8 + (0 : Nat)) (0 : Nat)) (Go.IntKind.wrap Go.IntKind.i64 ((↑(Int.toNat (g7 (Int.toNat x1) (16 : Nat))) : Int) + (1 : Int)))))))), (.n (x8 + (1 : Nat))), (.n (Int.toNat (↑x9 : Int) - (1 : Nat)))]))
 (.no))
 (.no))
 (.no)))
 (.no))
 (.no)))
 (.ok (.normal, [(.i (x0)), (.i (Go.IntKind.wrap Go.IntKind.i64 (x1 + (1 : Int)))), (.b (x2)), (.b (x3)), (.i (x4)), (.i (x5)), (.r (n6) (g6)), (.q (n7) (g7) ((16 : Nat)) ((2 : Nat)) (h7)), (.n (x8)), (.n (x9))])))
 (.no))
 (.ok (.exit 0, [(.b (x2)), (.b (x3)), (.i (x4)), (.i (x5)), (.q (n7) (g7) ((16 : Nat)) ((2 : Nat)) (h7))]))
noncomputable def y_crash_3 : Nat → Option Nat := (syOf3 [15, 22, 29, 5, 35, 7, 10, 12] [] [])
noncomputable def BL_crash_3 (l : List At) : Tr (Ex × List At) := B_crash_3 (aI l 0) (aI l 1) (aB l 2) (aB l 3) (aI l 4) (aI l 5) (aRn l 6) (aRg l 6) (aRn l 7) (aRg l 7) (aMh l 7 16 2) (aN l 8) (aN l 9)
theorem eB_crash_3 (l : List At) : (exec Try.prog Γ_next y_crash_3 noLoops 100 (loopAt Try.f24 3) ⟨mkV lsh_crash_3 l, mkH lsh_crash_3 l⟩).bind (leafL 4 xs_crash_3) = BL_crash_3 l := by kernel_rfl
/- by hand: O_crash_3 (x0 : Int) (x1 : Int) (x2 : Bool) (x3 : Bool) (x4 : Int) (x5 : Int) (n6 : Nat) (g6 : Nat → Nat → Int) (n7 : Nat) (g7 : Nat → Nat → Int) (h7 : Nat → Nat → Int) (x8 : Nat) (x9 : Nat) : Tr (Ex × List At); OL_crash_3 (l) := O_crash_3 (aI l 0) (aI l 1) (aB l 2) (aB l 3) (aI l 4) (aI l 5) (aRn l 6) (aRg l 6) (aRn l 7) (aRg l 7) (aMh l 7 16 2) (aN l 8) (aN l 9); μ_crash_3 : List At → Nat; rd_crash_3 : ∀ l r, (OL_crash_3 l).val = some r → RoundA BL_crash_3 OL_crash_3 μ_crash_3 l r -/

end Go.Proofs.Ytgmhggipaopoiaa.G
end

/-
  The loop of Crash: of each line some first stores become sure, the others are lost.
-/
section
namespace Go.Proofs.Ytgmhggipaopoiaa.G
open Go Go.AM Go.Proofs

theorem updG_ne {g : Nat → Nat → Int} {i j c : Nat} {x : Int} (h : j ≠ i) : updG g i c x j = g j := by
  rw [updG_row]; exact updR_ne h
theorem updG_at {g : Nat → Nat → Int} {i c c' : Nat} {x : Int} : updG g i c x i c' = if c' = c then x else g i c' := by
  rw [updG_row, updR_self]

def crChain (R : Nat → Nat → Int) (a : Nat) : Nat → Nat → Int :=
  updG (updG (updG (updG (updG (updG (updG (updG (updG (updG (updG (updG (updG (updG (updG (updG (updG R a 0 (R a 8)) a 1 (R a 9)) a 2 (R a 10)) a 3 (R a 11)) a 4 (R a 12)) a 5 (R a 13)) a 6 (R a 14)) a 7 (R a 15)) a 16 0) a 17 0) a 18 0) a 19 0) a 20 0) a 21 0) a 22 0) a 23 0) a 24 0

theorem cr_row (g h : Nat → Nat → Int) (a k : Nat) : crChain (updR g a (rowS (g a) (h a) k)) a = updR g a (crR (g a) (h a) k) := by
  unfold crChain
  funext i
  by_cases hi : i = a
  · subst hi
    funext c
    rw [updR_self, updR_self]
    simp only [updG_at, updR_self]
    match c with
    | 0 | 1 | 2 | 3 | 4 | 5 | 6 | 7 | 8 | 9 | 10 | 11 | 12 | 13 | 14 | 15 | 16 | 17 | 18 | 19 | 20 | 21 | 22 | 23 | 24 => rfl
    | c + 25 =>
      unfold rowS crR putS
      repeat rw [if_neg (by omega)]
  · simp only [updG_ne hi, updR_ne hi]

theorem cntU_congr {g g' : Nat → Nat → Int} : ∀ (d a : Nat), (∀ i, a ≤ i → i < a + d → g i = g' i) → cntU g a d = cntU g' a d
  | 0, _, _ => rfl
  | d + 1, a, h => by
    rw [cntU, cntU, h a (Nat.le_refl _) (by omega), cntU_congr d (a + 1) fun i h1 h2 => h i (by omega) (by omega)]

theorem cr_step {n : Nat} {g h : Nat → Nat → Int} {q q' : Nat → Int} {kn kn' a : Nat} (ha : a < n) (hk : g a 16 > 0) (hq : ∀ c, kv q' kn' c = kv q kn (c + 1)) :
    crG n (updR g a (crR (g a) (h a) (crK q kn 0 (g a 16)))) h q' kn' (a + 1) = crG n g h q kn a := by
  funext j
  unfold crG
  by_cases hj : j = a
  · subst hj
    rw [if_neg (by omega), updR_self, if_pos ⟨Nat.le_refl _, ha, hk⟩, Nat.sub_self]
    rfl
  · rw [updR_ne hj]
    by_cases hc : a ≤ j ∧ j < n ∧ g j 16 > 0
    · obtain ⟨d, hd⟩ : ∃ d, j = a + (d + 1) := ⟨j - (a + 1), by omega⟩
      rw [if_pos ⟨by omega, hc.2⟩, if_pos hc]
      congr 1
      have e1 : j - (a + 1) = d := by omega
      have e2 : j - a = d + 1 := by omega
      rw [e1, e2, cntU, if_pos hk, cntU_congr (g := updR g a _) (g' := g) d (a + 1) fun i h1 _ => updR_ne (by omega)]
      unfold crK
      rw [hq, Nat.add_comm 1]
    · rw [if_neg (fun hh => hc ⟨by omega, hh.2⟩), if_neg hc]

theorem cr_skip {n : Nat} {g h : Nat → Nat → Int} {q : Nat → Int} {kn a : Nat} (hk : ¬ g a 16 > 0) : crG n g h q kn (a + 1) = crG n g h q kn a := by
  funext j
  unfold crG
  by_cases hj : j = a
  · subst hj
    rw [if_neg (by omega), if_neg (fun hh => hk hh.2.2)]
  · by_cases hc : a ≤ j ∧ j < n ∧ g j 16 > 0
    · obtain ⟨d, hd⟩ : ∃ d, j = a + (d + 1) := ⟨j - (a + 1), by omega⟩
      have e1 : j - (a + 1) = d := by omega
      have e2 : j - a = d + 1 := by omega
      rw [if_pos ⟨by omega, hc.2⟩, if_pos hc, e1, e2, cntU, if_neg hk, Nat.zero_add]
    · rw [if_neg (fun hh => hc ⟨by omega, hh.2⟩), if_neg hc]

theorem cr_end {n : Nat} {g h : Nat → Nat → Int} {q : Nat → Int} {kn a : Nat} (ha : n ≤ a) : crG n g h q kn a = g := funext fun j => if_neg (by omega)

def preC (x0 x1 : Int) (n : Nat) (g h : Nat → Nat → Int) (q : Nat → Int) (kn : Nat) : Prop :=
  0 ≤ x1 ∧ x1 ≤ x0 ∧ x0 = n ∧ n ≤ 1073741824 ∧ (∀ i, x1.toNat ≤ i → i < n → RowOk (g i) (h i)) ∧ ∀ j, j < kn → -9223372036854775808 ≤ q j ∧ q j ≤ 9223372036854775807

noncomputable def O_crash_3 (x0 x1 : Int) (x2 x3 : Bool) (x4 x5 : Int) (_n6 : Nat) (g6 : Nat → Nat → Int) (n7 : Nat) (g7 h7 : Nat → Nat → Int) (x8 x9 : Nat) : Tr (Ex × List At) :=
  .br 0 (pdec (preC x0 x1 n7 g7 h7 (fun j => g6 (x8 + j) 0) x9)) (.ok (.exit 0, [.b x2, .b x3, .i x4, .i x5, .q n7 (crG n7 g7 h7 (fun j => g6 (x8 + j) 0) x9 x1.toNat) 16 2 h7])) .no
noncomputable def OL_crash_3 (l : List At) : Tr (Ex × List At) := O_crash_3 (aI l 0) (aI l 1) (aB l 2) (aB l 3) (aI l 4) (aI l 5) (aRn l 6) (aRg l 6) (aRn l 7) (aRg l 7) (aMh l 7 16 2) (aN l 8) (aN l 9)
def μ_crash_3 (l : List At) : Nat := (aI l 0 - aI l 1).toNat

theorem tmod_ok {v s : Int} (hv : 0 ≤ v) (hs : 0 ≤ s) : 0 ≤ Int.tmod v (s + 1) ∧ Int.tmod v (s + 1) ≤ s ∧ Int.tmod v (s + 1) = v % (s + 1) := by
  have e := Int.tmod_eq_emod_of_nonneg (b := s + 1) hv
  rw [e]
  have h1 := Int.emod_nonneg v (b := s + 1) (by omega)
  have h2 := Int.emod_lt_of_pos v (b := s + 1) (by omega)
  exact ⟨h1, by omega, rfl⟩

theorem rd_crash_3 : ∀ l r, (OL_crash_3 l).val = some r → RoundS BL_crash_3 OL_crash_3 μ_crash_3 l r := by
  intro l r h
  obtain ⟨hc, h⟩ := guard_val h
  obtain ⟨c0, c1, c2, c3, c4, c5⟩ := of_pdec hc
  have hr := val_ok h
  unfold RoundS BL_crash_3 B_crash_3
  generalize hx0 : aI l 0 = x0 at *
  generalize hx1 : aI l 1 = x1 at *
  generalize hn : aRn l 7 = n at *
  generalize hg : aRg l 7 = g at *
  generalize hh : aMh l 7 16 2 = hm at *
  generalize hn6 : aRn l 6 = n6 at *
  generalize hg6 : aRg l 6 = g6 at *
  generalize hx8 : aN l 8 = x8 at *
  generalize hx9 : aN l 9 = x9 at *
  generalize hb2 : aB l 2 = x2 at *
  generalize hb3 : aB l 3 = x3 at *
  generalize hi4 : aI l 4 = x4 at *
  generalize hi5 : aI l 5 = x5 at *
  refine brD (fun h1 => brW (fun _ => ?_) (fun hh => by exfalso; omega)) (fun h1 => ?_)
  · have hw : IntKind.i64.wrap (x1 + 1) = x1 + 1 := wrap_i64 (by omega) (by omega)
    have e2 : (x1 + 1).toNat = x1.toNat + 1 := by omega
    have hμ : (x0 - (x1 + 1)).toNat < μ_crash_3 l := by unfold μ_crash_3; rw [hx0, hx1]; omega
    have ho := c4 x1.toNat (Nat.le_refl _) (by omega)
    have ho1 := ho.1
    have ho2 := ho.2.1
    have e3 : ((g x1.toNat 16).toNat : Int) = g x1.toNat 16 := by omega
    rw [hw, e3, wrap_i64 (x := g x1.toNat 16 + 1) (by omega) (by omega)]
    -- how one goes on
    have go : ∀ (k : Int) (x8' x9' : Nat) (g' h' : Nat → Nat → Int), g x1.toNat 16 > 0 → k.toNat = crK (fun j => g6 (x8 + j) 0) x9 0 (g x1.toNat 16) → (∀ c, kv (fun j => g6 (x8' + j) 0) x9' c = kv (fun j => g6 (x8 + j) 0) x9 (c + 1)) → (∀ j, j < x9' → -9223372036854775808 ≤ g6 (x8' + j) 0 ∧ g6 (x8' + j) 0 ≤ 9223372036854775807) →
        g' = crChain (updR g x1.toNat (rowS (g x1.toNat) (hm x1.toNat) k.toNat)) x1.toNat → h' = updR hm x1.toNat (hS (hm x1.toNat) k.toNat) →
        (Tr.ok (Ex.normal, [At.i x0, .i (x1 + 1), .b x2, .b x3, .i x4, .i x5, .r n6 g6, .q n g' 16 2 h', .n x8', .n x9'])).sat fun p => (p.1 = .normal ∧ ∃ l2 r', AtsEq p.2 l2 ∧ μ_crash_3 l2 < μ_crash_3 l ∧ (OL_crash_3 l2).val = some r' ∧ r'.1 = r.1 ∧ AtsEq r'.2 r.2) ∨ (p.1 ≠ .normal ∧ r.1 = p.1 ∧ AtsEq p.2 r.2) := by
      intro k x8' x9' g' h' hpos hk hq hb hg' hh'
      have key := cr_step (n := n) (g := g) (h := hm) (q := fun j => g6 (x8 + j) 0) (q' := fun j => g6 (x8' + j) 0) (kn := x9) (kn' := x9') (a := x1.toNat) (by omega) hpos hq
      rw [cr_row, hk] at hg'
      have hpre : preC x0 (x1 + 1) n g' hm (fun j => g6 (x8' + j) 0) x9' := ⟨by omega, by omega, c2, c3, fun i h5 h6 => by
        rw [hg', updR_ne (by omega)]; exact c4 i (by omega) h6, hb⟩
      rw [← hg', ← e2] at key
      rw [← key] at h
      refine on_ [.i x0, .i (x1 + 1), .b x2, .b x3, .i x4, .i x5, .r n6 g6, .q n g' 16 2 hm, .n x8', .n x9'] r ?_ hμ ((br_t (g := 0) (pdec_yes hpre)).trans h) rfl (AtsEq.refl _)
      refine atsEq_cons (AtEq.refl _) (atsEq_cons (AtEq.refl _) (atsEq_cons (AtEq.refl _) (atsEq_cons (AtEq.refl _) (atsEq_cons (AtEq.refl _) (atsEq_cons (AtEq.refl _) (atsEq_cons (AtEq.refl _) (atsEq_cons ?_ (AtsEq.refl _))))))))
      refine atEq_q rfl (fun _ _ _ => rfl) fun i hi c hc => ?_
      by_cases hia : i = x1.toNat
      · subst hia
        rw [hg', updR_self, show crR (g x1.toNat) (hm x1.toNat) (crK (fun j => g6 (x8 + j) 0) x9 0 (g x1.toNat 16)) 16 = 0 from rfl] at hc
        exact absurd hc (by simp)
      · rw [hh', updR_ne hia]
    refine brD (fun h2 => ?_) (fun h2 => ?_)
    · refine brQ (fun h3 => ?_) (fun h3 => ?_)
      · have h9 : x9 = 0 := by omega
        obtain ⟨t1, t2, t3⟩ := tmod_ok (v := 0) (s := g x1.toNat 16) (by omega) ho1
        refine brNE (fun _ => brT (pdec_yes ⟨ho, t1, t2⟩) (brT rfl ?_)) (fun hh => by exfalso; omega)
        refine go _ _ _ _ _ h2 ?_ (fun c => ?_) (fun j hj => by omega) rfl rfl
        · rw [t3]; subst h9; rfl
        · subst h9; rfl
      · have h9 : 0 < x9 := by omega
        refine brW (fun _ => brT (by simp; omega) ?_) (fun hh => by exfalso; omega)
        rw [Nat.add_zero]
        have q12 : -9223372036854775808 ≤ g6 x8 0 ∧ g6 x8 0 ≤ 9223372036854775807 := c5 0 h9
        obtain ⟨q1, q2⟩ := q12
        have hqk : ∀ c, kv (fun j => g6 (x8 + 1 + j) 0) (x9 - 1) c = kv (fun j => g6 (x8 + j) 0) x9 (c + 1) := fun c => by
          unfold kv
          have e9 : (fun j => g6 (x8 + 1 + j) 0) c = (fun j => g6 (x8 + j) 0) (c + 1) := congrArg (fun j => g6 j 0) (by omega : x8 + 1 + c = x8 + (c + 1))
          rw [e9]
          by_cases hc9 : c + 1 < x9
          · rw [if_pos (show c < x9 - 1 by omega), if_pos hc9]
          · rw [if_neg (show ¬ c < x9 - 1 by omega), if_neg hc9]
        have hb9 : ∀ j, j < x9 - 1 → -9223372036854775808 ≤ g6 (x8 + 1 + j) 0 ∧ g6 (x8 + 1 + j) 0 ≤ 9223372036854775807 := fun j hj => by
          have := c5 (j + 1) (by omega)
          rw [show x8 + 1 + j = x8 + (j + 1) by omega]
          exact this
        have hkv : kv (fun j => g6 (x8 + j) 0) x9 0 = if g6 x8 0 < 0 then -(g6 x8 0 + 1) else g6 x8 0 := by
          unfold kv; rw [if_pos h9]; rfl
        refine brD (fun h4 => ?_) (fun h4 => ?_)
        · rw [wrap_i64 (x := g6 x8 0 + 1) (by omega) (by omega), wrap_i64 (x := 0 - (g6 x8 0 + 1)) (by omega) (by omega)]
          obtain ⟨t1, t2, t3⟩ := tmod_ok (v := 0 - (g6 x8 0 + 1)) (s := g x1.toNat 16) (by omega) ho1
          refine brNE (fun _ => brT (pdec_yes ⟨ho, t1, t2⟩) (brT rfl ?_)) (fun hh => by exfalso; omega)
          refine go _ _ _ _ _ h2 ?_ hqk hb9 rfl rfl
          rw [t3]; unfold crK; rw [hkv, if_pos h4, show 0 - (g6 x8 0 + 1) = -(g6 x8 0 + 1) by omega]
        · obtain ⟨t1, t2, t3⟩ := tmod_ok (v := g6 x8 0) (s := g x1.toNat 16) (by omega) ho1
          refine brNE (fun _ => brT (pdec_yes ⟨ho, t1, t2⟩) (brT rfl ?_)) (fun hh => by exfalso; omega)
          refine go _ _ _ _ _ h2 ?_ hqk hb9 rfl rfl
          rw [t3]; unfold crK; rw [hkv, if_neg h4]
    · have hpre : preC x0 (x1 + 1) n g hm (fun j => g6 (x8 + j) 0) x9 := ⟨by omega, by omega, c2, c3, fun i h5 h6 => c4 i (by omega) h6, c5⟩
      have key := cr_skip (n := n) (g := g) (h := hm) (q := fun j => g6 (x8 + j) 0) (kn := x9) (a := x1.toNat) h2
      rw [← key, ← e2] at h
      exact on_ _ r (AtsEq.refl _) hμ ((br_t (g := 0) (pdec_yes hpre)).trans h) rfl (AtsEq.refl _)
  · subst hr
    have key := cr_end (n := n) (g := g) (h := hm) (q := fun j => g6 (x8 + j) 0) (kn := x9) (a := x1.toNat) (by omega)
    refine out_ (by simp) rfl ?_
    show AtsEq _ [_, _, _, _, At.q n (crG n g hm (fun j => g6 (x8 + j) 0) x9 x1.toNat) 16 2 hm]
    rw [key]
    exact AtsEq.refl _
end Go.Proofs.Ytgmhggipaopoiaa.G
end

/-
  What functions of the seat compute, printed by a program from the explorer.
-/
section
namespace Go.Proofs.Ytgmhggipaopoiaa.G
open Go Go.AM Go.Proofs
theorem f_crash_3 : LoopF Try.prog 4 (loopAt Try.f24 3) (loopFn 4 lsh_crash_3 xs_crash_3 OL_crash_3) :=
  loop_sat (sy := y_crash_3) (fuel := 100) (Lp := noLoops) o_next mixed (loopsOK_at (noLoops_ok _) 3) rfl eB_crash_3 rd_crash_3
noncomputable def Lp_crash_3 : Loops := Loops.set noLoops 3 (loopFn 4 lsh_crash_3 xs_crash_3 OL_crash_3)
theorem lk_crash_3 : LoopsFn Try.prog 4 Lp_crash_3 Try.f24 := loopsFn_set (noLoops_ok _) (by kernel_rfl) f_crash_3

/-! ### crash -/

noncomputable def ish_crash : FSh := ⟨[.v false [.p 0 0], .v false [.vw 1 1]], [.cells [.sw 2 25, .k .b, .k .b, .k (.n .i64), .k (.n .i64)], .rows [.n .i64] false, .nrows [.n .u64, .n .u64, .n .u64, .n .u64, .n .u64, .n .u64, .n .u64, .n .u64, .n .u64, .n .u64, .n .u64, .n .u64, .n .u64, .n .u64, .n .u64, .n .u64, .n .i64, .n .i64, .n .i64, .n .i64, .n .i64, .n .i64, .n .i64, .n .i64, .n .i64] 16 [.n .i64, .n .u64] 3 false true, .no]⟩
noncomputable def osh_crash : FSh := ⟨[.tup []], [.cells [.sw 2 25, .k .b, .k .b, .k (.n .i64), .k (.n .i64)], .no, .nrows [.n .u64, .n .u64, .n .u64, .n .u64, .n .u64, .n .u64, .n .u64, .n .u64, .n .u64, .n .u64, .n .u64, .n .u64, .n .u64, .n .u64, .n .u64, .n .u64, .n .i64, .n .i64, .n .i64, .n .i64, .n .i64, .n .i64, .n .i64, .n .i64, .n .i64] 16 [.n .i64, .n .u64] 4 false true, .no, .no]⟩
noncomputable def T_crash (x0 : Bool) (x1 : Bool) (x2 : Int) (x3 : Int) (n4 : Nat) (g4 : Nat → Nat → Int) (n5 : Nat) (g5 : Nat → Nat → Int) (h5 : Nat → Nat → Int) : Tr (List At) :=
 .br 0 (pdec (preC (↑n5 : Int) (0 : Int) n5 g5 h5 (fun (j : Nat) => g4 ((0 : Nat) + j) (0 : Nat)) n4))
 (.ok [(.b (Bool.false)), (.b (Bool.false)), (.i (x2)), (.i (x3)), (.q (n5) (crG n5 g5 h5 (fun (j : Nat) => g4 ((0 : Nat) + j) (0 : Nat)) n4 (0 : Nat)) ((16 : Nat)) ((2 : Nat)) (h5))])
 (.no)
noncomputable def y_crash : Nat → Option Nat := (syOf3 [] [] [])
noncomputable def TL_crash (l : List At) : Tr (List At) := T_crash (aB l 0) (aB l 1) (aI l 2) (aI l 3) (aRn l 4) (aRg l 4) (aRn l 5) (aRg l 5) (aMh l 5 16 2)
theorem e_crash (l : List At) : (call Try.prog Γ_next y_crash Lp_crash_3 100 Try.f24 (mkV ish_crash l) (mkH ish_crash l)).bind (leafO 4 osh_crash) = TL_crash l := by kernel_rfl
end Go.Proofs.Ytgmhggipaopoiaa.G
end

/-
  All calls of a memory, restated: what each makes of it.
-/
section
namespace Go.Proofs.Ytgmhggipaopoiaa.G
open Go Go.AM Go.Proofs

def mmC (l : List At) : Mem := ⟨aRn l 5, aRg l 5, aMh l 5 16 2, aB l 0, aB l 1, aI l 2, aI l 3⟩
def Mem.ldC (m : Mem) (i : Int) : Int := bif decide (i < 0) || decide (i ≥ (m.n : Int)) then 1 else bif m.off then 4 else 0
def Mem.ldW (m : Mem) (i : Int) (c : Nat) : Int := bif m.ldC i == 0 then m.g i.toNat c else 0

theorem cod_po {m : Mem} (h : codeI m.off m.burns m.left ≠ 0) : m.po = true := by
  cases hp : m.po with
  | true => rfl
  | false => exact absurd (po_cod hp) h
theorem po_of_cod {m : Mem} (h : codeI m.off m.burns m.left = 0) : m.po = false := by
  cases hp : m.po with
  | false => rfl
  | true => have e : m.cod = 4 := po_cod4 hp; unfold Mem.cod at e; rw [h] at e; cases e

theorem t_store (m : Mem) (x0 x1 x2 : Int) (hm : m.Ok 900000) : (T_store x0 x1 x2 m.off m.burns m.left m.steps m.n m.g m.h).sat fun r => AtsEq r (.i (m.stC x0 x1) :: (m.stM x0 x1 x2).ats) := by
  obtain ⟨o1, o2, o3, o4, o5⟩ := hm
  have bad : m.bad x0 x1 = true → AtsEq [.i 1, .b m.off, .b m.burns, .i m.left, .i m.steps, .q m.n m.g 16 2 m.h] (.i (m.stC x0 x1) :: (m.stM x0 x1 x2).ats) := fun h => by
    unfold Mem.stC Mem.stM; rw [h]; exact AtsEq.refl _
  have dead : m.bad x0 x1 = false → m.po = true → AtsEq [.i (codeI m.off m.burns m.left), .b (offB m.off m.burns m.left), .b m.burns, .i (leftI m.off m.burns m.left), .i (stepsI m.off m.burns m.left m.steps), .q m.n m.g 16 2 m.h] (.i (m.stC x0 x1) :: (m.stM x0 x1 x2).ats) := fun h hp => by
    unfold Mem.stC Mem.stM; rw [h, hp]; exact AtsEq.refl _
  unfold T_store store_c4 store_c5
  refine brD (fun h0 => brT rfl (Tr.sat_ok.2 (bad (by simp [Mem.bad, h0])))) fun h0 => brD (fun h1 => brT rfl (Tr.sat_ok.2 (bad (by simp [Mem.bad]; omega)))) fun h1 => brW (fun _ => brD (fun h2 => Tr.sat_ok.2 (bad (by simp [Mem.bad]; omega))) fun h2 => brD (fun h3 => Tr.sat_ok.2 (bad (by simp [Mem.bad]; omega))) fun h3 => ?_) (fun hh => by exfalso; omega)
  have hb : m.bad x0 x1 = false := by simp [Mem.bad]; omega
  refine brT (pdec_yes o1) (brT (pdec_yes (by omega)) (brNE (fun hc => Tr.sat_ok.2 (dead hb (cod_po hc))) fun hc => brW (fun _ => ?_) (fun hh => by exfalso; omega)))
  have hp := po_of_cod hc
  have ho := (o5 x0.toNat (by omega)).1
  have e1 : updG m.g x0.toNat (0 + x1.toNat * 1) x2 = updR m.g x0.toNat (fun c => if c = x1.toNat then x2 else m.g x0.toNat c) := by rw [updG_row, Nat.zero_add, Nat.mul_one]
  have e2 : updR m.g x0.toNat (fun c => if c = x1.toNat then x2 else m.g x0.toNat c) x0.toNat 16 = m.g x0.toNat 16 := by rw [updR_self]; exact if_neg (by omega)
  rw [e1, e2]
  have ho1 := ho.1
  have ho2 := ho.2.1
  refine brT (decide_eq_true (by omega)) (brT (Nat.beq_refl _) (Tr.sat_ok.2 ?_))
  unfold Mem.stC Mem.stM
  rw [hb, hp]
  have hcod : m.cod = 0 := po_cod hp
  have hg : updG (updR m.g x0.toNat (fun c => if c = x1.toNat then x2 else m.g x0.toNat c)) x0.toNat 16 (((m.g x0.toNat 16).toNat + 1 : Nat) : Int) = updR m.g x0.toNat (stR (m.g x0.toNat) x1.toNat x2) := by
    rw [updG_row, updR_updR, updR_self]
    congr 1
    funext c
    unfold stR
    by_cases h5 : c = 16
    · rw [if_pos h5, if_pos h5]; omega
    · rw [if_neg h5, if_neg h5]
  rw [hg]
  refine atsEq_cons (by show At.i 0 = At.i m.cod; rw [hcod]) (atsEq_cons (AtEq.refl _) (atsEq_cons (AtEq.refl _) (atsEq_cons (AtEq.refl _) (atsEq_cons (AtEq.refl _) (atsEq_cons ?_ atsEq_nil)))))
  refine atEq_q rfl (fun _ _ _ => rfl) fun i hi k hk => ?_
  show putM m.h x0.toNat 2 _ i k = updR m.h x0.toNat _ i k
  unfold putM updR
  by_cases h5 : i = x0.toNat
  · subst h5
    rw [if_pos rfl, if_pos rfl]
    rw [updR_self, show stR (m.g x0.toNat) x1.toNat x2 16 = m.g x0.toNat 16 + 1 from if_pos rfl] at hk
    generalize hcn : (m.g x0.toNat 16).toNat = cn at *
    have hk2 : k < cn * 2 + 2 := by omega
    show (if k / 2 < cn then m.h x0.toNat (k / 2 * 2 + k % 2) else [x1, x2].getD (k % 2) 0) = stH (m.h x0.toNat) cn x1 x2 k
    unfold stH
    by_cases h6 : k / 2 < cn
    · rw [if_pos h6, if_neg (by omega), if_neg (by omega)]
      exact congrArg (m.h x0.toNat) (by omega)
    · rw [if_neg h6]
      by_cases h7 : k = cn * 2
      · rw [if_pos h7, show k % 2 = 0 by omega]; rfl
      · rw [if_neg h7, if_pos (by omega), show k % 2 = 1 by omega]; rfl
  · rw [if_neg h5, if_neg h5]

noncomputable def F2_store (l : List At) : Tr (List At) := .br 0 (pdec (Mem.Ok 900000 (mm l 3))) (.ok (.i ((mm l 3).stC (aI l 0) (aI l 1)) :: ((mm l 3).stM (aI l 0) (aI l 1) (aI l 2)).ats)) .no
theorem s2_store : SpecF Try.prog 35 (.eff (locF ish_store osh_store F2_store)) :=
  spec_loc (sy := y_store) (fuel := 100) (Lp := noLoops) o_S4 mixed ⟨Try.func35, by kernel_rfl, by kernel_rfl⟩ ish_store osh_store (noLoops_ok _) (hT_of e_store fun l r h => by
    obtain ⟨h1, h⟩ := guard_val h
    have := val_ok h
    subst this
    exact t_store (mm l 3) _ _ _ (of_pdec h1))

theorem t_flush (m : Mem) (x0 x1 : Int) (hm : m.Ok 900000) : (T_flush x0 x1 m.off m.burns m.left m.steps m.n m.g m.h).sat fun r => AtsEq r (.i (m.stC x1 x0) :: (m.flM x0 x1).ats) := by
  obtain ⟨o1, o2, o3, o4, o5⟩ := hm
  have bad : m.bad x1 x0 = true → AtsEq [.i 1, .b m.off, .b m.burns, .i m.left, .i m.steps, .q m.n m.g 16 2 m.h] (.i (m.stC x1 x0) :: (m.flM x0 x1).ats) := fun h => by
    unfold Mem.stC Mem.flM; rw [h]; exact AtsEq.refl _
  have dead : m.bad x1 x0 = false → m.po = true → AtsEq [.i (codeI m.off m.burns m.left), .b (offB m.off m.burns m.left), .b m.burns, .i (leftI m.off m.burns m.left), .i (stepsI m.off m.burns m.left m.steps), .q m.n m.g 16 2 m.h] (.i (m.stC x1 x0) :: (m.flM x0 x1).ats) := fun h hp => by
    unfold Mem.stC Mem.flM; rw [h, hp]; exact AtsEq.refl _
  unfold T_flush flush_c0
  refine brD (fun h0 => brT rfl (Tr.sat_ok.2 (bad (by simp [Mem.bad, h0])))) fun h0 => brD (fun h1 => brT rfl (Tr.sat_ok.2 (bad (by simp [Mem.bad]; omega)))) fun h1 => brW (fun _ => brD (fun h2 => Tr.sat_ok.2 (bad (by simp [Mem.bad]; omega))) fun h2 => brD (fun h3 => Tr.sat_ok.2 (bad (by simp [Mem.bad]; omega))) fun h3 => ?_) (fun hh => by exfalso; omega)
  have hb : m.bad x1 x0 = false := by simp [Mem.bad]; omega
  refine brT (pdec_yes o1) (brT (pdec_yes (by omega)) (brNE (fun hc => Tr.sat_ok.2 (dead hb (cod_po hc))) fun hc => brW (fun _ => ?_) (fun hh => by exfalso; omega)))
  have hp := po_of_cod hc
  have ho := (o5 x1.toNat (by omega)).1
  have ho1 := ho.1
  refine Tr.sat_ok.2 ?_
  unfold Mem.stC Mem.flM
  rw [hb, hp]
  have hcod : m.cod = 0 := po_cod hp
  have hg : updG m.g x1.toNat (17 + x0.toNat * 1) ((m.g x1.toNat 16).toNat : Int) = updR m.g x1.toNat (flR (m.g x1.toNat) x0.toNat) := by
    rw [updG_row, Nat.mul_one, Int.toNat_of_nonneg ho1]
    rfl
  rw [hg]
  exact atsEq_cons (by show At.i 0 = At.i m.cod; rw [hcod]) (AtsEq.refl _)

noncomputable def F2_flush (l : List At) : Tr (List At) := .br 0 (pdec (Mem.Ok 900000 (mm l 2))) (.ok (.i ((mm l 2).stC (aI l 1) (aI l 0)) :: ((mm l 2).flM (aI l 0) (aI l 1)).ats)) .no
theorem s2_flush : SpecF Try.prog 36 (.eff (locF ish_flush osh_flush F2_flush)) :=
  spec_loc (sy := y_flush) (fuel := 100) (Lp := noLoops) o_fusem mixed ⟨Try.func36, by kernel_rfl, by kernel_rfl⟩ ish_flush osh_flush (noLoops_ok _) (hT_of e_flush fun l r h => by
    obtain ⟨h1, h⟩ := guard_val h
    have := val_ok h
    subst this
    exact t_flush (mm l 2) _ _ (of_pdec h1))

theorem t_fence (m : Mem) (x0 : Int) (hm : m.Ok 900000) : (T_fence x0 m.off m.burns m.left m.steps m.n m.g m.h).sat fun r => AtsEq r (.i (m.feC x0) :: (m.feM x0).ats) := by
  obtain ⟨o1, o2, o3, o4, o5⟩ := hm
  have bad : corB x0 = true → AtsEq [.i 1, .b m.off, .b m.burns, .i m.left, .i m.steps, .q m.n m.g 16 2 m.h] (.i (m.feC x0) :: (m.feM x0).ats) := fun h => by
    unfold Mem.feC Mem.feM; rw [h]; exact AtsEq.refl _
  have dead : corB x0 = false → m.po = true → AtsEq [.i (codeI m.off m.burns m.left), .b (offB m.off m.burns m.left), .b m.burns, .i (leftI m.off m.burns m.left), .i (stepsI m.off m.burns m.left m.steps), .q m.n m.g 16 2 m.h] (.i (m.feC x0) :: (m.feM x0).ats) := fun h hp => by
    unfold Mem.feC Mem.feM; rw [h, hp]; exact AtsEq.refl _
  unfold T_fence
  refine brD (fun h0 => Tr.sat_ok.2 (bad (by simp [corB, h0]))) fun h0 => brD (fun h1 => Tr.sat_ok.2 (bad (by simp [corB]; omega))) fun h1 => ?_
  have hb : corB x0 = false := by simp [corB]; omega
  refine brT (pdec_yes o1) (brT (pdec_yes (by omega)) (brNE (fun hc => Tr.sat_ok.2 (dead hb (cod_po hc))) fun hc => ?_))
  have hp := po_of_cod hc
  refine brT (pdec_yes ⟨by omega, by omega, Int.le_refl _, by omega, rfl, o4, fun i _ hi => (o5 i hi).1⟩) (Tr.sat_ok.2 ?_)
  unfold Mem.feC Mem.feM
  rw [hb, hp]
  have hcod : m.cod = 0 := po_cod hp
  exact atsEq_cons (by show At.i 0 = At.i m.cod; rw [hcod]) (AtsEq.refl _)

noncomputable def F2_fence (l : List At) : Tr (List At) := .br 0 (pdec (Mem.Ok 900000 (mm l 1))) (.ok (.i ((mm l 1).feC (aI l 0)) :: ((mm l 1).feM (aI l 0)).ats)) .no
theorem s2_fence : SpecF Try.prog 37 (.eff (locF ish_fence osh_fence F2_fence)) :=
  spec_loc (sy := y_fence) (fuel := 100) (Lp := Lp_fence_7) o_next mixed ⟨Try.func37, by kernel_rfl, by kernel_rfl⟩ ish_fence osh_fence lk_fence_7 (hT_of e_fence fun l r h => by
    obtain ⟨h1, h⟩ := guard_val h
    have := val_ok h
    subst this
    exact t_fence (mm l 1) _ (of_pdec h1))

noncomputable def F2_fuse (l : List At) : Tr (List At) := .ok ((mm l 1).fuM (aI l 0)).ats
theorem s2_fuse : SpecF Try.prog 25 (.eff (locF ish_fusem osh_fusem F2_fuse)) :=
  spec_loc (sy := y_fusem) (fuel := 100) (Lp := noLoops) o_steps mixed ⟨Try.func25, by kernel_rfl, by kernel_rfl⟩ ish_fusem osh_fusem (noLoops_ok _) (hT_of e_fusem fun l r h => by
    have := val_ok h
    subst this
    exact Tr.sat_ok.2 (AtsEq.refl _))

def KeepOk (q : Nat → Int) (kn : Nat) : Prop := ∀ j, j < kn → -9223372036854775808 ≤ q j ∧ q j ≤ 9223372036854775807

theorem t_crash (m : Mem) (n4 : Nat) (g4 : Nat → Nat → Int) (hm : m.Ok 900000) (hq : KeepOk (fun j => g4 j 0) n4) : (T_crash m.off m.burns m.left m.steps n4 g4 m.n m.g m.h).sat fun r => AtsEq r (m.crM (fun j => g4 j 0) n4).ats := by
  obtain ⟨o1, o2, o3, o4, o5⟩ := hm
  have e : (fun j => g4 (0 + j) 0) = fun j => g4 j 0 := by funext j; rw [Nat.zero_add]
  unfold T_crash
  rw [e]
  exact brT (pdec_yes ⟨Int.le_refl _, by omega, rfl, o4, fun i _ hi => (o5 i hi).1, hq⟩) (Tr.sat_ok.2 (AtsEq.refl _))

noncomputable def F2_crash (l : List At) : Tr (List At) := .br 0 (pdec (Mem.Ok 900000 (mmC l))) (.br 0 (pdec (KeepOk (fun j => aRg l 4 j 0) (aRn l 4))) (.ok ((mmC l).crM (fun j => aRg l 4 j 0) (aRn l 4)).ats) .no) .no
theorem s2_crash : SpecF Try.prog 24 (.eff (locF ish_crash osh_crash F2_crash)) :=
  spec_loc (sy := y_crash) (fuel := 100) (Lp := Lp_crash_3) o_next mixed ⟨Try.func24, by kernel_rfl, by kernel_rfl⟩ ish_crash osh_crash lk_crash_3 (hT_of e_crash fun l r h => by
    obtain ⟨h1, h⟩ := guard_val h
    obtain ⟨h2, h⟩ := guard_val h
    have := val_ok h
    subst this
    exact t_crash (mmC l) _ _ (of_pdec h1) (of_pdec h2))

noncomputable def F2_load (l : List At) : Tr (List At) := .ok [.i ((mm l 1).ldW (aI l 0) 0), .i ((mm l 1).ldW (aI l 0) 1), .i ((mm l 1).ldW (aI l 0) 2), .i ((mm l 1).ldW (aI l 0) 3), .i ((mm l 1).ldW (aI l 0) 4), .i ((mm l 1).ldW (aI l 0) 5), .i ((mm l 1).ldW (aI l 0) 6), .i ((mm l 1).ldW (aI l 0) 7), .i ((mm l 1).ldC (aI l 0))]

theorem t_load (m : Mem) (x0 : Int) : (T_load x0 m.off m.burns m.left m.steps m.n m.g m.h).sat fun r => AtsEq r [.i (m.ldW x0 0), .i (m.ldW x0 1), .i (m.ldW x0 2), .i (m.ldW x0 3), .i (m.ldW x0 4), .i (m.ldW x0 5), .i (m.ldW x0 6), .i (m.ldW x0 7), .i (m.ldC x0)] := by
  unfold T_load load_c0 Mem.ldW
  have bad : m.ldC x0 = 1 → AtsEq [.i 0, .i 0, .i 0, .i 0, .i 0, .i 0, .i 0, .i 0, .i 1] [.i (bif m.ldC x0 == 0 then m.g x0.toNat 0 else 0), .i (bif m.ldC x0 == 0 then m.g x0.toNat 1 else 0), .i (bif m.ldC x0 == 0 then m.g x0.toNat 2 else 0), .i (bif m.ldC x0 == 0 then m.g x0.toNat 3 else 0), .i (bif m.ldC x0 == 0 then m.g x0.toNat 4 else 0), .i (bif m.ldC x0 == 0 then m.g x0.toNat 5 else 0), .i (bif m.ldC x0 == 0 then m.g x0.toNat 6 else 0), .i (bif m.ldC x0 == 0 then m.g x0.toNat 7 else 0), .i (m.ldC x0)] := fun h => by rw [h]; exact AtsEq.refl _
  refine brD (fun h0 => Tr.sat_ok.2 (bad (by simp [Mem.ldC, h0]))) fun h0 => brD (fun h1 => Tr.sat_ok.2 (bad (by unfold Mem.ldC; rw [show (decide (x0 < 0) || decide (x0 ≥ (m.n : Int))) = true by simp; omega]; rfl))) fun h1 => brW (fun _ => ?_) (fun hh => by exfalso; omega)
  have e : m.ldC x0 = bif m.off then 4 else 0 := by unfold Mem.ldC; rw [show (decide (x0 < 0) || decide (x0 ≥ (m.n : Int))) = false by simp; omega]; rfl
  rw [e]
  refine brC (fun hf => Tr.sat_ok.2 ?_) (fun hf => Tr.sat_ok.2 ?_)
  · rw [hf]; exact AtsEq.refl _
  · rw [hf]; exact AtsEq.refl _

theorem s2_load : SpecF Try.prog 38 (.read (locR ish_load osh_load F2_load)) :=
  spec_read (sy := y_load) (fuel := 100) (Lp := noLoops) o_store mixed ⟨Try.func38, by kernel_rfl, by kernel_rfl⟩ ish_load osh_load (by kernel_rfl) (noLoops_ok _) (hT_of e_load fun l r h => by
    have := val_ok h
    subst this
    exact t_load (mm l 1) _)

noncomputable def F2_new (l : List At) : Tr (Nat × List At) := .br 0 (decide (aI l 0 < 64 ∨ aI l 0 > 1024)) (.ok (1, [.i 1])) (.ok (0, .i 0 :: (newM (aI l 0).toNat).ats))

theorem s2_new : SpecF Try.prog 21 (.eff (locFs ish_new oshs_new F2_new)) :=
  spec_locs (sy := y_new) (fuel := 100) (Lp := noLoops) o_flush mixed ⟨Try.func21, by kernel_rfl, by kernel_rfl⟩ ish_new oshs_new (noLoops_ok _) (hT_ofS e_new fun l r h => by
    refine ⟨r, ?_, rfl, AtsEq.refl _⟩
    unfold F2_new at h
    rw [← h]
    unfold TL_new T_new
    generalize aI l 0 = x0
    by_cases h1 : x0 < 64
    · rw [show decide (x0 < 64) = true by simpa using h1, show decide (x0 < 64 ∨ x0 > 1024) = true by simp [h1]]; rfl
    · by_cases h2 : x0 > 1024
      · rw [show decide (x0 < 64) = false by simpa using h1, show decide (x0 > 1024) = true by simpa using h2, show decide (x0 < 64 ∨ x0 > 1024) = true by simp [h2]]; rfl
      · rw [show decide (x0 < 64) = false by simpa using h1, show decide (x0 > 1024) = false by simpa using h2, show decide (x0 < 64 ∨ x0 > 1024) = false by simp [h1, h2], show (decide (0 ≤ x0) && x0 == x0 && decide (x0 ≤ 1073741824)) = true by simp; omega]; rfl)

noncomputable def Γ_R1 : Specs := upd (upd (upd (upd (upd (upd (upd (Γ_next) 35 (.eff (locF ish_store osh_store F2_store))) 36 (.eff (locF ish_flush osh_flush F2_flush))) 37 (.eff (locF ish_fence osh_fence F2_fence))) 25 (.eff (locF ish_fusem osh_fusem F2_fuse))) 24 (.eff (locF ish_crash osh_crash F2_crash))) 38 (.read (locR ish_load osh_load F2_load))) 21 (.eff (locFs ish_new oshs_new F2_new))
theorem o_R1 : SpecOK Try.prog Γ_R1 := SpecOK.upd (SpecOK.upd (SpecOK.upd (SpecOK.upd (SpecOK.upd (SpecOK.upd (SpecOK.upd (o_next) s2_store) s2_flush) s2_fence) s2_fuse) s2_crash) s2_load) s2_new
end Go.Proofs.Ytgmhggipaopoiaa.G
end

/-
  What a memory's calls make of each line, in plain words.
-/
section
namespace Go.Proofs.Ytgmhggipaopoiaa.G
open Go Go.AM Go.Proofs

/-! ### which of so many kinds -/

/-! ### a memory that is on and does not burn -/

def Mem.on (m : Mem) : Prop := m.off = false ∧ m.burns = false
theorem stM_n {m : Mem} {i w v : Int} : (m.stM i w v).n = m.n := by unfold Mem.stM; cases m.bad i w <;> cases m.po <;> rfl
theorem flM_n {m : Mem} {c i : Int} : (m.flM c i).n = m.n := by unfold Mem.flM; cases m.bad i c <;> cases m.po <;> rfl
theorem feM_n {m : Mem} {c : Int} : (m.feM c).n = m.n := by unfold Mem.feM; cases corB c <;> cases m.po <;> rfl
/-! ### what is now is what is sure, with the stores -/

theorem apF_pt {c : Nat} : ∀ (m a : Nat) (s s' hr hr' : Nat → Int), s c = s' c → (∀ k, a ≤ k → k < a + m → hr (k * 2) = hr' (k * 2) ∧ hr (k * 2 + 1) = hr' (k * 2 + 1)) → apF s hr a m c = apF s' hr' a m c
  | 0, _, _, _, _, _, hs, _ => hs
  | m + 1, a, s, s', hr, hr', hs, h => by
    obtain ⟨h1, h2⟩ := h a (Nat.le_refl _) (by omega)
    rw [apF, apF]
    refine apF_pt m (a + 1) _ _ hr hr' ?_ fun k h3 h4 => h k (by omega) (by omega)
    show (if c = (hr (a * 2)).toNat then hr (a * 2 + 1) else s c) = if c = (hr' (a * 2)).toNat then hr' (a * 2 + 1) else s' c
    rw [h1, h2, hs]

def Coh (r hr : Nat → Int) : Prop := ∀ c, c < 8 → r c = apF (sur r) hr 0 (r 16).toNat c

theorem coh_st {r hr : Nat → Int} {w v : Int} (h : Coh r hr) (h1 : 0 ≤ r 16) (hw : 0 ≤ w ∧ w < 8) : Coh (stR r w.toNat v) (stH hr (r 16).toNat w v) := by
  intro c hc
  have e : stR r w.toNat v 16 = r 16 + 1 := if_pos rfl
  rw [e, show (r 16 + 1).toNat = (r 16).toNat + 1 by omega, apF_succ, Nat.zero_add]
  generalize hn : (r 16).toNat = n
  have a1 : stH hr n w v (n * 2) = w := if_pos rfl
  have a2 : stH hr n w v (n * 2 + 1) = v := by unfold stH; rw [if_neg (by omega), if_pos rfl]
  show stR r w.toNat v c = if c = (stH hr n w v (n * 2)).toNat then stH hr n w v (n * 2 + 1) else apF (sur (stR r w.toNat v)) (stH hr n w v) 0 n c
  rw [a1, a2]
  unfold stR
  rw [if_neg (by omega)]
  by_cases hcw : c = w.toNat
  · rw [if_pos hcw, if_pos hcw]
  · rw [if_neg hcw, if_neg hcw, h c hc, hn]
    refine apF_pt n 0 _ _ _ _ ?_ fun k _ hk => ?_
    · show r (8 + c) = if 8 + c = 16 then r 16 + 1 else if 8 + c = w.toNat then v else r (8 + c)
      rw [if_neg (by omega), if_neg (by omega)]
    · unfold stH
      rw [if_neg (by omega), if_neg (by omega), if_neg (by omega), if_neg (by omega)]
      exact ⟨rfl, rfl⟩

theorem flR_lo {r : Nat → Int} {k c : Nat} (hc : c < 17) : flR r k c = r c := if_neg (by omega)

theorem coh_fl {r hr : Nat → Int} {k : Nat} (h : Coh r hr) : Coh (flR r k) hr := by
  intro c hc
  rw [flR_lo (by omega), flR_lo (by omega), h c hc]
  refine apF_pt _ _ _ _ _ _ ?_ fun _ _ _ => ⟨rfl, rfl⟩
  show r (8 + c) = flR r k (8 + c)
  exact (flR_lo (by omega)).symm

theorem rowS_now {r hr : Nat → Int} {n c : Nat} (hc : c < 8) : rowS r hr n c = r c := by
  unfold rowS
  rw [if_neg (by omega), if_neg (by omega), putS_out _ _ (by omega)]
theorem rowS_sur {r hr : Nat → Int} {n c : Nat} (hc : c < 8) : sur (rowS r hr n) c = apF (sur r) hr 0 n c := by
  unfold sur rowS putS
  rw [if_neg (by omega), if_neg (by omega), if_pos (by omega), show 8 + c - 8 = c by omega]
  rfl

theorem coh_rowS {r hr : Nat → Int} {n : Nat} (h : Coh r hr) (hn : (n : Int) ≤ r 16) : Coh (rowS r hr n) (hS hr n) := by
  intro c hc
  rw [rowS_now hc, rowS16, h c hc]
  generalize hk : (r 16 - n).toNat = k
  rw [show (r 16).toNat = n + k by omega, apF_add]
  rw [apF_pt (s := sur (rowS r hr n)) (s' := apF (sur r) hr 0 n) (hr := hS hr n) (hr' := hS hr n) k 0 (rowS_sur hc) (fun _ _ _ => ⟨rfl, rfl⟩)]
  show _ = apF (apF (sur r) hr 0 n) (fun k => hr (k + 2 * n)) 0 k c
  rw [apF_shift]

theorem crR_16 {r hr : Nat → Int} {k : Nat} : crR r hr k 16 = 0 := rfl
theorem crR_now {r hr : Nat → Int} {k c : Nat} (hc : c < 8) : crR r hr k c = apF (sur r) hr 0 k c := if_pos hc
theorem crR_sur {r hr : Nat → Int} {k c : Nat} (hc : c < 8) : sur (crR r hr k) c = apF (sur r) hr 0 k c := by
  unfold sur crR
  rw [if_neg (by omega), if_pos (by omega), show 8 + c - 8 = c by omega]
  rfl
theorem coh_crR {r hr : Nat → Int} {k : Nat} : Coh (crR r hr k) hr := fun c hc => by
  rw [crR_16, crR_now hc]; exact (crR_sur hc).symm

def Mem.Coh (m : Mem) : Prop := ∀ i, i < m.n → G.Coh (m.g i) (m.h i)

end Go.Proofs.Ytgmhggipaopoiaa.G
end
