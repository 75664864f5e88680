/-
  The plain law of IpcOrder.
-/
import Derived.Test.YtepdekambalmhaaC7
namespace Go.Proofs.Ytepdekambalmhaa.G
open Go Go.AM Go.Proofs

theorem pre22_0 {m o : Int} {n : Nat} {G : Nat → Int} (hm : m = 3 ∨ m = 4) (ho : (o = 3 ∨ o = 4) ∧ o ≠ m) (hn : n ≤ 7) (hG : ∀ k, 0 ≤ G k ∧ G k < 49) :
    pre22 m o 0 (lineAt m n G 0) (lineAt m n G 1) (lineAt m n G 2) (lineAt m n G 3) (lineAt m n G 4) (lineAt m n G 5) (lineAt m n G 6) (lineAt m n G 7) n (gcol G) := by
  have e : ∀ j, lineAt m n G j = lineAt m (n - Int.toNat 0) (fun k => gcol G (Int.toNat 0 + k) 0) j := fun j => by
    have : (fun k => gcol G (Int.toNat 0 + k) 0) = G := by
      funext k
      show G (0 + k) = G k
      rw [Nat.zero_add]
    rw [this]; rfl
  exact ⟨hm, ho, by omega, by omega, hn, ⟨e 0, e 1, e 2, e 3, e 4, e 5, e 6, e 7⟩, fun k _ => hG k⟩

theorem pre10_0 {m : Int} {n1 : Nat} {G : Nat → Int} {g : Nat → Nat → Int} (hm : m = 3 ∨ m = 4) : pre10 n1 m 0 0 0 0 0 0 0 0 0 G 0 g :=
  ⟨by omega, by omega, by omega, hm, rfl, ⟨rfl, rfl, rfl, rfl, rfl, rfl, rfl, rfl⟩, fun k hk => by omega⟩

theorem vc_IpcOrder (x0 : Bool) (n1 : Nat) (g1 : Nat → Nat → Int) (_b : n1 ≤ maxLen) (_w : ∀ (i c : Nat) (k : SK), i < n1 → [SK.n .i64][c]? = some k → wfS k (g1 i c)) :
    (T_IpcOrder x0 n1 g1).sat fun r => r = [.b true] := by
  unfold T_IpcOrder
  refine brT rfl (brC (fun _ => ?_) (fun _ => ?_))
  · exact brT (pdec_yes (pre10_0 (by omega))) (brT (pdec_yes (pre22_0 (by omega) (by omega) (by omega) (fun k => idv_ok _))) (brT (by decide) (Tr.sat_ok.2 rfl)))
  · exact brT (pdec_yes (pre10_0 (by omega))) (brT (pdec_yes (pre22_0 (by omega) (by omega) (by omega) (fun k => idv_ok _))) (brT (by decide) (Tr.sat_ok.2 rfl)))
end Go.Proofs.Ytepdekambalmhaa.G
