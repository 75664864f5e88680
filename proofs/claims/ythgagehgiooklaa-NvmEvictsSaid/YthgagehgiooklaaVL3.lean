/-
  The plain law of NvmEvicts.
-/
import Derived.Test.YthgagehgiooklaaG8ToL3
namespace Go.Proofs.Ythgagehgiooklaa.G
open Go Go.AM Go.Proofs

structure EvInv (u : Nat → Int) (i : Nat) (M : Mem) : Prop where
  on : M.on
  n : M.n = 64
  cnt : M.g 5 16 = i
  coh : Coh (M.g 5) (M.h 5)
  sure : ∀ c, c < 8 → sur (M.g 5) c = 0
  st : ∀ j, j < i → M.h 5 (j * 2) = Int.tmod (j : Int) 8 ∧ M.h 5 (j * 2 + 1) = u j

theorem tmod8 (i : Nat) : 0 ≤ Int.tmod (i : Int) 8 ∧ Int.tmod (i : Int) 8 < 8 := by
  rw [Int.tmod_eq_emod_of_nonneg (Int.natCast_nonneg i)]; omega

theorem ev_step {u : Nat → Int} {i : Nat} {M : Mem} (h : EvInv u i M) : EvInv u (i + 1) (M.stM 5 (Int.tmod (i : Int) 8) (u i)) := by
  have ht := tmod8 i
  generalize hT : Int.tmod (i : Int) 8 = t at *
  have hb : M.bad 5 t = false := bad_of ⟨by decide, by rw [h.n]; decide, ht⟩
  have e := stM_on (v := u i) h.on hb
  have o := stM_on' (i := 5) (w := t) (v := u i) h.on
  have eg : (M.stM 5 t (u i)).g 5 = stR (M.g 5) t.toNat (u i) := by rw [e]; show updR M.g 5 _ 5 = _; exact updR_self
  have eh : (M.stM 5 t (u i)).h 5 = stH (M.h 5) (M.g 5 16).toNat t (u i) := by rw [e]; show updR M.h 5 _ 5 = _; exact updR_self
  have hc : (M.g 5 16).toNat = i := by rw [h.cnt]; omega
  refine ⟨o, by rw [stM_n]; exact h.n, ?_, ?_, fun c hc => ?_, fun j hj => ?_⟩
  · rw [eg, show stR (M.g 5) t.toNat (u i) 16 = M.g 5 16 + 1 from if_pos rfl, h.cnt]; omega
  · rw [eg, eh]; exact coh_st h.coh (by rw [h.cnt]; omega) ht
  · rw [eg]
    show (if 8 + c = 16 then M.g 5 16 + 1 else if 8 + c = t.toNat then u i else M.g 5 (8 + c)) = 0
    rw [if_neg (by omega), if_neg (by omega)]
    exact h.sure c hc
  · rw [eh, hc]
    unfold stH
    by_cases hji : j = i
    · subst hji
      rw [if_pos rfl, if_neg (by omega), if_pos rfl]
      exact ⟨hT.symm, rfl⟩
    · rw [if_neg (by omega), if_neg (by omega), if_neg (by omega), if_neg (by omega)]
      exact h.st j (by omega)

theorem ev_all {u : Nat → Int} : ∀ (m i : Nat) (M : Mem), EvInv u i M → EvInv u (i + m) (evMM u m i M)
  | 0, _, _, h => h
  | m + 1, i, M, h => by
    rw [evMM, show i + (m + 1) = (i + 1) + m by omega]
    exact ev_all m (i + 1) _ (ev_step h)

theorem ev_ok {u : Nat → Int} : ∀ (m i : Nat) (M : Mem) (K : Int), M.Ok K → K + m ≤ 900000 → (evMM u m i M).Ok (K + m)
  | 0, _, _, _, h, _ => h.mono (by omega)
  | m + 1, i, M, K, h, hK => by
    rw [evMM]
    exact (ev_ok m (i + 1) _ (K + 1) (stM_ok h (by omega)) (by omega)).mono (by omega)

theorem ev_new (u : Nat → Int) : EvInv u 0 (newM 64) := ⟨newM_on _, rfl, rfl, fun _ _ => rfl, fun _ _ => rfl, fun _ hj => absurd hj (Nat.not_lt_zero _)⟩

/-- The stores of such values. -/
def huF (u : Nat → Int) : Nat → Int := fun j => if j % 2 = 0 then Int.tmod ((j / 2 : Nat) : Int) 8 else u (j / 2)
theorem huF_at (u : Nat → Int) (j : Nat) : huF u (j * 2) = Int.tmod (j : Int) 8 ∧ huF u (j * 2 + 1) = u j := by
  unfold huF
  rw [if_pos (by omega), if_neg (by omega), show j * 2 / 2 = j by omega, show (j * 2 + 1) / 2 = j by omega]
  exact ⟨rfl, rfl⟩

theorem evW_ap {u : Nat → Int} {k : Int} : ∀ (m i : Nat) (w : Nat → Int), evW u k m i w = apF w (huF u) i (min m (k.toNat - i))
  | 0, i, w => by rw [Nat.zero_min]; rfl
  | m + 1, i, w => by
    rw [evW, evW_ap m (i + 1)]
    by_cases hk : (i : Int) < k
    · rw [if_pos hk, show min (m + 1) (k.toNat - i) = min m (k.toNat - (i + 1)) + 1 by omega, apF, (huF_at u i).1, (huF_at u i).2]
      rfl
    · rw [if_neg hk, show min (m + 1) (k.toNat - i) = 0 by omega, show min m (k.toNat - (i + 1)) = 0 by omega]
      rfl

theorem ev_law {u : Nat → Int} {i : Nat} {M : Mem} {k : Int} (h : EvInv u i M) (hk : 0 ≤ k) (c : Nat) (hc : c < 8) :
    ((M.evM 5 k).crM (fun _ => 0) 0).ldW 5 c = apF (fun _ => 0) (huF u) 0 (min i k.toNat) c := by
  have hb : M.ebad 5 k = false := ebad_of ⟨by decide, by rw [h.n]; decide, hk⟩
  have e := evM_on h.on hb
  rw [ldW_on crM_on ⟨by decide, by show (5 : Int) < (M.evM 5 k).n; rw [evM_n, h.n]; decide⟩]
  generalize hK : evK (M.g 5) k = K at *
  have hKv : K = min i k.toNat := by rw [← hK]; unfold evK; rw [h.cnt]; split <;> omega
  have eg : (M.evM 5 k).g 5 = rowS (M.g 5) (M.h 5) K := by rw [e, show (5 : Int).toNat = 5 from rfl, hK]; show updR M.g 5 _ 5 = _; exact updR_self
  have eh : (M.evM 5 k).h 5 = hS (M.h 5) K := by rw [e, show (5 : Int).toNat = 5 from rfl, hK]; show updR M.h 5 _ 5 = _; exact updR_self
  have key : ∀ j, j ≤ i → apF (sur (M.g 5)) (M.h 5) 0 j c = apF (fun _ => 0) (huF u) 0 j c := fun j hj =>
    apF_pt _ _ _ _ _ _ (h.sure c hc) fun p _ hp => by
      obtain ⟨s1, s2⟩ := h.st p (by omega)
      obtain ⟨f1, f2⟩ := huF_at u p
      rw [s1, s2, f1, f2]
      exact ⟨rfl, rfl⟩
  show crG (M.evM 5 k).n (M.evM 5 k).g (M.evM 5 k).h (fun _ => 0) 0 0 5 c = _
  unfold crG
  rw [eg, eh, evM_n, h.n, rowS16, h.cnt]
  by_cases hp : (i : Int) - (K : Int) > 0
  · have e0 : ∀ j s, crK (fun _ => 0) 0 j s = 0 := fun j s => by unfold crK kv; rw [if_neg (Nat.not_lt_zero _), Int.zero_emod]; rfl
    rw [if_pos ⟨Nat.zero_le _, by decide, hp⟩, e0, crR_now hc]
    show sur (rowS (M.g 5) (M.h 5) K) c = _
    rw [rowS_sur hc, key K (by omega), hKv]
  · rw [if_neg (fun hh => hp hh.2.2), rowS_now hc, h.coh c hc, h.cnt, key _ (by omega), show (i : Int).toNat = min i k.toNat by omega]

theorem vc_NvmEvicts (x0 : Int) (n1 : Nat) (g1 : Nat → Nat → Int) (x0l : -9223372036854775808 ≤ x0) (x0h : x0 ≤ 9223372036854775807) (_b : n1 ≤ maxLen) (_w : ∀ (i c : Nat) (k : SK), i < n1 → [SK.n .u64][c]? = some k → wfS k (g1 i c)) :
    (T_NvmEvicts x0 n1 g1).sat fun r => r = [.b true] := by
  obtain ⟨k1, kx, kx2⟩ := kind_in (n := 25) x0l x0h (by decide) (by decide)
  have h0 : (newM 64).Ok 0 := newM_ok (by decide)
  unfold T_NvmEvicts NvmEvicts_c6 NvmEvicts_c5 NvmEvicts_c4 NvmEvicts_c3 NvmEvicts_c2 NvmEvicts_c1 NvmEvicts_c0
  generalize r_kind_0 x0 25 = k at *
  generalize hm : (if (20 : Int) < (n1 : Int) then (20 : Int) else (n1 : Int)) = mi
  have hm0 : 0 ≤ mi ∧ mi ≤ 20 ∧ mi ≤ n1 := by subst hm; split <;> omega
  rw [Int.sub_zero]
  generalize hu : (fun i => g1 (0 + i) 0) = u
  generalize hmn : mi.toNat = m
  have inv := ev_all m 0 _ (ev_new u)
  have ok1 := ev_ok (u := u) m 0 _ 0 h0 (by omega)
  rw [Nat.zero_add] at inv
  have ok2 := evM_ok (i := 5) (x := k) ok1
  have law := ev_law inv kx
  have e8 : w8 0 0 0 0 0 0 0 0 = fun _ => 0 := by
    funext c
    match c with
    | 0 | 1 | 2 | 3 | 4 | 5 | 6 | 7 => rfl
    | c + 8 => rfl
  have ew : evW u k m 0 (w8 0 0 0 0 0 0 0 0) = apF (fun _ => 0) (huF u) 0 (min m k.toNat) := by rw [e8, evW_ap, Nat.sub_zero]
  have hb : (evMM u m 0 (newM 64)).ebad 5 k = false := ebad_of ⟨by decide, by rw [inv.n]; decide, kx⟩
  have ec : (evMM u m 0 (newM 64)).evC 5 k = 0 := by unfold Mem.evC; rw [hb, inv.on.1]; rfl
  have hs : ((evMM u m 0 (newM 64)).evM 5 k).steps = (evMM u m 0 (newM 64)).steps := by unfold Mem.evM; rw [hb, inv.on.1]; rfl
  refine brF rfl (brT k1 (brT (pdec_yes ⟨by omega, by omega, by omega, by omega, h0.mono (by omega)⟩) (brT (pdec_yes (ok1.mono (by omega))) (brT (pdec_yes (ok2.mono (by omega))) (brT (pdec_yes keepOk_nil) (brT (by rw [ec]; rfl) (brT (by rw [ldC_on crM_on ⟨by decide, by show (5 : Int) < ((evMM u m 0 (newM 64)).evM 5 k).n; rw [evM_n, inv.n]; decide⟩]; rfl) (brT ?_ (Tr.sat_ok.2 ?_)))))))))
  · rw [law 0 (by omega), law 1 (by omega), law 2 (by omega), law 3 (by omega), law 4 (by omega), law 5 (by omega), law 6 (by omega), law 7 (by omega), ew]
    simp
  · show [At.b (((evMM u m 0 (newM 64)).evM 5 k).steps == (evMM u m 0 (newM 64)).steps)] = [.b true]
    rw [hs]
    simp
end Go.Proofs.Ythgagehgiooklaa.G
