/-
  What a spec takes of the memory it takes where a block more stands behind.
-/
import Derived.Test.YtepdekambalmhaaAn1
import Derived.Test.YtepdekambalmhaaAmO
namespace Go.AM

section
variable {bs : List BSh} {N N' : Nat}

theorem blt_mono (hN : N ≤ N') {c : Nat} (h : Nat.blt c N = true) : Nat.blt c N' = true := by
  rw [Nat.blt_eq] at h ⊢
  omega

theorem takeS_mono (hN : N ≤ N') {σ : List Src} {s : Sh} {a : AS} {r : List Src × List At} (h : takeS bs N σ s a = some r) : takeS bs N' σ s a = some r := by
  cases s
  case k k => cases k <;> cases a <;> exact h
  case sq id wd =>
    cases hv : viewT (.v (.s a)) with
    | none =>
      simp only [takeS, hv] at h
      cases h
    | some q =>
      obtain ⟨cid, wd', i, len⟩ := q
      simp only [takeS, hv] at h ⊢
      split at h
      · rename_i h1
        split at h
        · rename_i h2
          rw [blt_mono hN h2]
          exact h
        · cases h
      · cases h
  all_goals cases a <;> exact h

theorem takeL_mono (hN : N ≤ N') : ∀ {r : List Sh} {as : List AS} {σ : List Src} {res : List Src × List At}, takeL bs N σ r as = some res → takeL bs N' σ r as = some res
  | [], [], _, _, h => h
  | s :: r, a :: as, σ, res, h => by
    simp only [takeL] at h ⊢
    split at h
    · rename_i σ1 x h1
      rw [takeS_mono hN h1]
      simp only
      split at h
      · rename_i σ2 y h2
        rw [takeL_mono hN h2]
        exact h
      · cases h
    · cases h
  | [], _ :: _, _, _, h => by simp [takeL] at h
  | _ :: _, [], _, _, h => by simp [takeL] at h

theorem takeA_mono (hN : N ≤ N') {σ : List Src} {p : Bool × List Sh} {a : AV} {res : List Src × List At} (h : takeA bs N σ p a = some res) : takeA bs N' σ p a = some res := by
  obtain ⟨b, r⟩ := p
  cases b
  · cases a with
    | s a =>
      rcases r with _ | ⟨s, _ | ⟨s2, r⟩⟩
      · simp [takeA] at h
      · exact takeS_mono hN h
      · simp [takeA] at h
    | agg as => simp [takeA] at h
  · cases a with
    | s a => simp [takeA] at h
    | agg as => exact takeL_mono hN h

theorem takeAs_mono (hN : N ≤ N') : ∀ {r : List (Bool × List Sh)} {as : List AV} {σ : List Src} {res : List Src × List At}, takeAs bs N σ r as = some res → takeAs bs N' σ r as = some res
  | [], [], _, _, h => h
  | s :: r, a :: as, σ, res, h => by
    simp only [takeAs] at h ⊢
    split at h
    · rename_i σ1 x h1
      rw [takeA_mono hN h1]
      simp only
      split at h
      · rename_i σ2 y h2
        rw [takeAs_mono hN h2]
        exact h
      · cases h
    · cases h
  | [], _ :: _, _, _, h => by simp [takeAs] at h
  | _ :: _, [], _, _, h => by simp [takeAs] at h

theorem takeT_mono (hN : N ≤ N') {σ : List Src} {s : TSh} {a : TV} {res : List Src × List At} (h : takeT bs N σ s a = some res) : takeT bs N' σ s a = some res := by
  cases s <;> cases a <;> first
    | exact takeA_mono hN h
    | exact takeAs_mono hN h
    | exact h

theorem takeTs_mono (hN : N ≤ N') : ∀ {r : List TSh} {as : List TV} {σ : List Src} {res : List Src × List At}, takeTs bs N σ r as = some res → takeTs bs N' σ r as = some res
  | [], [], _, _, h => h
  | s :: r, a :: as, σ, res, h => by
    simp only [takeTs] at h ⊢
    split at h
    · rename_i σ1 x h1
      rw [takeT_mono hN h1]
      simp only
      split at h
      · rename_i σ2 y h2
        rw [takeTs_mono hN h2]
        exact h
      · cases h
    · cases h
  | [], _ :: _, _, _, h => by simp [takeTs] at h
  | _ :: _, [], _, _, h => by simp [takeTs] at h
end

section
variable {H : AH} {B : Option Blk} {bs : List BSh}

theorem takeB_mono {σ : List Src} {s : Src} {b : BSh} {res : List Src × List At} (h : takeB H bs σ s b = some res) : takeB (H ++ [B]) bs σ s b = some res := by
  have hl : H.length ≤ (H ++ [B]).length := by simp
  cases s with
  | blk c =>
    cases b with
    | no => exact h
    | cells r =>
      simp only [takeB] at h ⊢
      cases hb : blk H c with
      | none => rw [hb] at h; cases h
      | some x =>
        rw [hb] at h
        rw [blk_mono hb]
        cases x with
        | cells as => exact takeL_mono hl h
        | _ => cases h
    | roc r =>
      simp only [takeB] at h ⊢
      cases hb : blkC H c with
      | none => rw [hb] at h; cases h
      | some x =>
        rw [hb] at h
        rw [blkC_mono hb]
        cases x with
        | cells as => exact takeL_mono hl h
        | _ => cases h
    | rows ks own =>
      simp only [takeB] at h ⊢
      cases hb : blk H c with
      | none => rw [hb] at h; cases h
      | some x =>
        rw [hb] at h
        rw [blk_mono hb]
        exact h
  | view c wd i len =>
    cases b with
    | no => exact h
    | rows ks own =>
      cases own with
      | true => exact h
      | false =>
        simp only [takeB] at h ⊢
        cases hb : blk H c with
        | none => rw [hb] at h; cases h
        | some x =>
          rw [hb] at h
          rw [blk_mono hb]
          exact h
    | _ => exact h
  | cview c wd o len =>
    cases b with
    | no => exact h
    | rows ks own =>
      cases own with
      | true => exact h
      | false =>
        simp only [takeB] at h ⊢
        cases hb : blkC H c with
        | none => rw [hb] at h; cases h
        | some x =>
          rw [hb] at h
          rw [blkC_mono hb]
          exact h
    | _ => exact h
  | fresh => cases b <;> exact h
  | opq a => cases b <;> exact h

theorem takeBs_mono : ∀ {r : List BSh} {j : Nat} {σ : List Src} {res : List Src × List At}, takeBs H bs j r σ = some res → takeBs (H ++ [B]) bs j r σ = some res
  | [], _, _, _, h => h
  | b :: r, j, σ, res, h => by
    simp only [takeBs] at h ⊢
    split at h
    · rename_i s hs
      split at h
      · rename_i σ1 x h1
        rw [takeB_mono h1]
        simp only
        split at h
        · rename_i σ2 y h2
          rw [takeBs_mono h2]
          exact h
        · cases h
      · cases h
    · cases h

theorem takeF_mono {k : Nat} {sh : FSh} {ts : List TV} {res : List Src × List At} (h : takeF k sh ts H = some res) : takeF k sh ts (H ++ [B]) = some res := by
  unfold takeF at h ⊢
  split at h
  · rename_i σ1 x h1
    rw [takeTs_mono (N' := (H ++ [B]).length) (by simp) h1]
    simp only
    split at h
    · rename_i σ2 y h2
      rw [takeBs_mono h2]
      exact h
    · cases h
  · cases h
end
end Go.AM
