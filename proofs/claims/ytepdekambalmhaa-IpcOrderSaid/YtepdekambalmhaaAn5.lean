/-
  The abstract machine, part 21: back from a function's own memory to its caller's.
-/
import Derived.Test.YtepdekambalmhaaAn4
namespace Go.AM

/-! ### rows that are the same as far as they go -/

def AtEq : At → At → Prop
  | .r n g, .r n' g' => n = n' ∧ ∀ i, i < n → ∀ c, g i c = g' i c
  | a, b => a = b

def AtsEq : List At → List At → Prop := All2 AtEq

theorem AtEq.refl (a : At) : AtEq a a := by cases a <;> first | rfl | exact ⟨rfl, fun _ _ _ => rfl⟩
theorem AtsEq.refl (l : List At) : AtsEq l l := All2.of_get rfl fun i a b h1 h2 => by rw [h1] at h2; cases h2; exact AtEq.refl a

section
variable {l l' : List At}

theorem atsEq_get (h : AtsEq l l') (i : Nat) : (l[i]? = none ∧ l'[i]? = none) ∨ ∃ a a', l[i]? = some a ∧ l'[i]? = some a' ∧ AtEq a a' := by
  cases h1 : l[i]? with
  | some a => obtain ⟨a', h2, h3⟩ := h.get h1; exact .inr ⟨a, a', rfl, h2, h3⟩
  | none =>
    cases h2 : l'[i]? with
    | some a' => obtain ⟨a, h3, _⟩ := h.get_r h2; rw [h1] at h3; cases h3
    | none => exact .inl ⟨rfl, rfl⟩

theorem atEq_aI (h : AtsEq l l') (i : Nat) : aI l i = aI l' i := by
  rcases atsEq_get h i with ⟨h1, h2⟩ | ⟨a, a', h1, h2, h3⟩
  · simp only [aI, h1, h2]
  · simp only [aI, h1, h2]; cases a <;> cases a' <;> simp_all [AtEq]
theorem atEq_aB (h : AtsEq l l') (i : Nat) : aB l i = aB l' i := by
  rcases atsEq_get h i with ⟨h1, h2⟩ | ⟨a, a', h1, h2, h3⟩
  · simp only [aB, h1, h2]
  · simp only [aB, h1, h2]; cases a <;> cases a' <;> simp_all [AtEq]
theorem atEq_aN (h : AtsEq l l') (i : Nat) : aN l i = aN l' i := by
  rcases atsEq_get h i with ⟨h1, h2⟩ | ⟨a, a', h1, h2, h3⟩
  · simp only [aN, h1, h2]
  · simp only [aN, h1, h2]; cases a <;> cases a' <;> simp_all [AtEq]
theorem atEq_aRn (h : AtsEq l l') (i : Nat) : aRn l i = aRn l' i := by
  rcases atsEq_get h i with ⟨h1, h2⟩ | ⟨a, a', h1, h2, h3⟩
  · simp only [aRn, h1, h2]
  · simp only [aRn, h1, h2]; cases a <;> cases a' <;> simp_all [AtEq]
theorem atEq_aRg (h : AtsEq l l') (i j c : Nat) (hj : j < aRn l i) : aRg l i j c = aRg l' i j c := by
  rcases atsEq_get h i with ⟨h1, h2⟩ | ⟨a, a', h1, h2, h3⟩
  · simp only [aRg, h1, h2]
  · simp only [aRn, h1] at hj
    simp only [aRg, h1, h2]; cases a <;> cases a' <;> simp_all [AtEq]

theorem mkSh_eq (h : AtsEq l l') (ns : List Nat) (i : Nat) (s : Sh) : mkSh ns l i s = mkSh ns l' i s := by
  cases s with
  | k sk => cases sk <;> simp only [mkSh, atEq_aI h, atEq_aB h]
  | _ => simp only [mkSh, atEq_aN h]
theorem mkShs_eq (h : AtsEq l l') (ns : List Nat) : ∀ (i : Nat) (s : List Sh), mkShs ns l i s = mkShs ns l' i s
  | _, [] => rfl
  | i, s :: r => by simp only [mkShs, mkSh_eq h, mkShs_eq h ns _ r]
theorem mkAVS_eq (h : AtsEq l l') (ns : List Nat) (i : Nat) : ∀ (s : Bool × List Sh), mkAVS ns l i s = mkAVS ns l' i s
  | (true, _) => by simp only [mkAVS, mkShs_eq h]
  | (false, _ :: _) => by simp only [mkAVS, mkSh_eq h]
  | (false, []) => rfl
theorem mkAVSs_eq (h : AtsEq l l') (ns : List Nat) : ∀ (i : Nat) (s : List (Bool × List Sh)), mkAVSs ns l i s = mkAVSs ns l' i s
  | _, [] => rfl
  | i, s :: r => by simp only [mkAVSs, mkAVS_eq h, mkAVSs_eq h ns _ r]
theorem mkTV_eq (h : AtsEq l l') (ns : List Nat) (i : Nat) (s : TSh) : mkTV ns l i s = mkTV ns l' i s := by
  cases s <;> simp only [mkTV, mkAVS_eq h, mkAVSs_eq h]
theorem mkTVs_eq (h : AtsEq l l') (ns : List Nat) : ∀ (i : Nat) (s : List TSh), mkTVs ns l i s = mkTVs ns l' i s
  | _, [] => rfl
  | i, s :: r => by simp only [mkTVs, mkTV_eq h, mkTVs_eq h ns _ r]
theorem mkNs_eq (h : AtsEq l l') : ∀ (i : Nat) (s : List BSh), mkNs l i s = mkNs l' i s
  | _, [] => rfl
  | i, s :: r => by simp only [mkNs, mkNs_eq h _ r, atEq_aRn h]
theorem mkV_eq (h : AtsEq l l') (sh : FSh) : mkV sh l = mkV sh l' := by simp only [mkV, mkNs_eq h, mkTVs_eq h]

def BlkEq : Option Blk → Option Blk → Prop
  | some (.rows ks n g own), some (.rows ks' n' g' own') => ks = ks' ∧ n = n' ∧ own = own' ∧ ∀ i, i < n → ∀ c, g i c = g' i c
  | a, b => a = b

theorem mkB_eq (h : AtsEq l l') (ns : List Nat) (i : Nat) (s : BSh) : BlkEq (mkB ns l i s) (mkB ns l' i s) := by
  cases s with
  | no => rfl
  | cells r => exact congrArg (fun x => some (Blk.cells x)) (mkShs_eq h ns i r)
  | roc r => exact congrArg (fun x => some (Blk.roc x)) (mkShs_eq h ns i r)
  | rows ks own => exact ⟨rfl, atEq_aRn h i, rfl, fun j hj c => atEq_aRg h i j c hj⟩

theorem mkBs_eq (h : AtsEq l l') (ns : List Nat) : ∀ (i : Nat) (s : List BSh), All2 BlkEq (mkBs ns l i s) (mkBs ns l' i s)
  | _, [] => trivial
  | i, s :: r => ⟨mkB_eq h ns i s, mkBs_eq h ns _ r⟩

theorem BlkEq.same {B B' : Blk} (h : BlkEq (some B) (some B')) : B.mut = B'.mut ∧ (∀ L x, B.foot L x ↔ B'.foot L x) ∧ ∀ {φ L heap}, RepB φ L heap B → RepB φ L heap B' := by
  unfold BlkEq at h
  split at h
  · rename_i ks n g own ks' n' g' own' e1 e2
    cases e1; cases e2
    obtain ⟨rfl, rfl, rfl, hg⟩ := h
    refine ⟨rfl, fun _ _ => Iff.rfl, fun {φ L heap} hB => ?_⟩
    obtain ⟨h1, h2, h3⟩ := hB
    exact ⟨h1, h2, h3.imp id fun ⟨cs, t, fr, k1, k2, k3, k4⟩ => ⟨cs, t, fr, k1, k2, k3, fun i c sk hi hc => by rw [← hg i hi c]; exact k4 i c sk hi hc⟩⟩
  · cases h
    exact ⟨rfl, fun _ _ => Iff.rfl, fun h => h⟩

theorem BlkEq.none_l {b : Option Blk} (h : BlkEq none b) : b = none := by cases b <;> simp [BlkEq] at h ⊢
theorem BlkEq.none_r {b : Option Blk} (h : BlkEq b none) : b = none := by
  cases b with
  | none => rfl
  | some B => cases B <;> simp [BlkEq] at h

theorem rep_eq {φ : Phi} {H H' : AH} {heap : Array Obj} (h : Rep φ H heap) (he : All2 BlkEq H H') : Rep φ H' heap := by
  have get : ∀ {id : Nat} {B' : Blk}, H'[id]? = some (some B') → ∃ B, H[id]? = some (some B) ∧ BlkEq (some B) (some B') := by
    intro id B' hB
    obtain ⟨b, h1, h2⟩ := he.get_r hB
    cases b with
    | none => have := h2.none_l; cases this
    | some B => exact ⟨B, h1, h2⟩
  refine ⟨by rw [h.len, he.length_eq], ?_, ?_⟩
  · intro id B' hB
    obtain ⟨B, h1, h2⟩ := get hB
    obtain ⟨L, h3, h4⟩ := h.blk id B h1
    exact ⟨L, h3, h2.same.2.2 h4⟩
  · intro id id' B B' L L' b hB hB' hL hL' hne hm z z'
    obtain ⟨C, h1, h2⟩ := get hB
    obtain ⟨C', h1', h2'⟩ := get hB'
    exact h.apart id id' C C' L L' b h1 h1' hL hL' hne (by rw [h2.same.1]; exact hm) ((h2.same.2.1 _ _).2 z) ((h2'.same.2.1 _ _).2 z')

theorem mkH_eq (h : AtsEq l l') (sh : FSh) : All2 BlkEq (mkH sh l) (mkH sh l') := by
  unfold mkH
  rw [mkNs_eq h]
  exact mkBs_eq h _ _ _

theorem ext_eq {φ0 : Phi} {H0 : AH} {w : World} {φ : Phi} {H H' : AH} {w' : World} (h : Ext φ0 H0 w φ H w') (he : All2 BlkEq H H') : Ext φ0 H0 w φ H' w' := by
  refine ⟨⟨h.size, h.pre, h.frame, ?_⟩, h.os, h.output, h.tape⟩
  intro id B' L b hB hL hf
  obtain ⟨o, h1, h2⟩ := he.get_r hB
  cases o with
  | none => have := h2.none_l; cases this
  | some B =>
    rcases h.img id B L b h1 hL ((h2.same.2.1 _ _).2 hf) with h' | ⟨id0, B0, L0, e1, e2, e3, e4⟩
    · exact .inl h'
    · exact .inr ⟨id0, B0, L0, e1, e2, e3, fun hm => e4 (by rw [h2.same.1]; exact hm)⟩
end

/-- What a function (or a loop) leaves, laid into a shape. -/
theorem ext_take {φ0 : Phi} {H0 : AH} {w w' : World} {φ : Phi} {H : AH} {sh : FSh} {ts : List TV} {vs : List Value} {σ : List Src} {l : List At} (h : takeF H0.length sh ts H = some (σ, l)) (h0 : φ0.length = H0.length) (hE : Ext φ0 H0 w φ H w') (hrep : Rep φ H w'.heap) (hts : All2 (relT φ) ts vs) :
    ∃ φ', Rep φ' (mkH sh l) w'.heap ∧ All2 (relT φ') (mkV sh l) vs ∧ Ext φ0 H0 w φ' (mkH sh l) w' ∧ ∀ j, j < H0.length → φ'[j]? = φ0[j]? := by
  obtain ⟨ψ, rfl⟩ := hE.pre
  have hle : H0.length ≤ H.length := by have := hrep.len; simp at this; omega
  obtain ⟨φ', h1, h2, h3, h4, h5⟩ := takeF_sound h hrep hle hts
  have hfirst : ∀ j, j < H0.length → φ'[j]? = φ0[j]? := by
    intro j hj
    rw [(h4 j hj).1, List.getElem?_append_left (by omega)]
  refine ⟨φ', h2, h3, ⟨⟨hE.size, ⟨φ'.drop H0.length, ?_⟩, hE.frame, ?_⟩, hE.os, hE.output, hE.tape⟩, hfirst⟩
  · apply List.ext_getElem?
    intro i
    by_cases hi : i < H0.length
    · rw [hfirst i hi, List.getElem?_append_left (by omega)]
    · rw [List.getElem?_append_right (by omega), List.getElem?_drop]
      congr 1; omega
  · intro id B L b hB hL hf
    obtain ⟨s, c, B0, L0, p1, p2, p3, p4, p5, p6⟩ := h5 id B L b hB hL hf
    rcases hE.img c B0 L0 b p3 p4 p5 with h' | ⟨id0, B1, L1, e1, e2, e3, e4⟩
    · exact .inl h'
    · exact .inr ⟨id0, B1, L1, e1, e2, e3, fun hm => e4 (p6 hm).1⟩
end Go.AM
