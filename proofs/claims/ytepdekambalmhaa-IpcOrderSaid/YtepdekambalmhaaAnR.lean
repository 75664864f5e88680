/-
  The abstract machine, part 25: a loop's round, told by what each of its ways comes to.
-/
import Derived.Test.YtepdekambalmhaaAn8
namespace Go.AM

theorem AtEq.symm {a b : At} (h : AtEq a b) : AtEq b a := by
  cases a <;> cases b <;> first
    | exact Eq.symm h
    | exact ⟨h.1.symm, fun i hi c => (h.2 i (h.1 ▸ hi) c).symm⟩
theorem AtEq.trans {a b c : At} (h : AtEq a b) (k : AtEq b c) : AtEq a c := by
  cases a <;> cases b <;> cases c <;> first
    | exact Eq.trans h k
    | (cases h; done)
    | (cases k; done)
    | exact ⟨h.1.trans k.1, fun i hi c => (h.2 i hi c).trans (k.2 i (h.1 ▸ hi) c)⟩
theorem AtsEq.trans : ∀ {l m n : List At}, AtsEq l m → AtsEq m n → AtsEq l n
  | [], [], [], _, _ => trivial
  | _ :: _, _ :: _, _ :: _, h, k => ⟨h.1.trans k.1, AtsEq.trans h.2 k.2⟩
  | [], _ :: _, _, h, _ => h.elim
  | _ :: _, [], _, h, _ => h.elim
  | _, [], _ :: _, _, k => k.elim
  | _, _ :: _, [], _, k => k.elim

/-- One round, way by way: on with less, to the same end; or out. -/
def RoundS (B O : List At → Tr (Ex × List At)) (μ : List At → Nat) (l : List At) (r : Ex × List At) : Prop :=
  (B l).sat fun p => (p.1 = .normal ∧ ∃ l2 r', AtsEq p.2 l2 ∧ μ l2 < μ l ∧ (O l2).val = some r' ∧ r'.1 = r.1 ∧ AtsEq r'.2 r.2) ∨ (p.1 ≠ .normal ∧ r.1 = p.1 ∧ AtsEq p.2 r.2)

theorem on_ {O : List At → Tr (Ex × List At)} {μ : List At → Nat} {l l1 : List At} {r : Ex × List At} (l2 : List At) (r' : Ex × List At) (h : AtsEq l1 l2) (hμ : μ l2 < μ l) (hO : (O l2).val = some r') (he : r'.1 = r.1) (hr : AtsEq r'.2 r.2) :
    (Tr.ok (Ex.normal, l1)).sat fun p => (p.1 = .normal ∧ ∃ l2 r', AtsEq p.2 l2 ∧ μ l2 < μ l ∧ (O l2).val = some r' ∧ r'.1 = r.1 ∧ AtsEq r'.2 r.2) ∨ (p.1 ≠ .normal ∧ r.1 = p.1 ∧ AtsEq p.2 r.2) :=
  Tr.sat_ok.2 (.inl ⟨rfl, l2, r', h, hμ, hO, he, hr⟩)

theorem out_ {O : List At → Tr (Ex × List At)} {μ : List At → Nat} {l l1 : List At} {e : Ex} {r : Ex × List At} (hn : e ≠ .normal) (he : r.1 = e) (hr : AtsEq l1 r.2) :
    (Tr.ok (e, l1)).sat fun p => (p.1 = .normal ∧ ∃ l2 r', AtsEq p.2 l2 ∧ μ l2 < μ l ∧ (O l2).val = some r' ∧ r'.1 = r.1 ∧ AtsEq r'.2 r.2) ∨ (p.1 ≠ .normal ∧ r.1 = p.1 ∧ AtsEq p.2 r.2) :=
  Tr.sat_ok.2 (.inr ⟨hn, he, hr⟩)

section
variable {P : Program} {Γ : Specs} {sy : Nat → Option Nat} {Lp : Loops} {fuel : Nat}

theorem loop_sat (hΓ : SpecOK P Γ) (hm : P.follows .mixedOrders = true) {k : Nat} {c : Code} (hL : LoopsOK P k Lp c) {lsh : FSh} {xs : Exs} (hx : xs .normal = some lsh) {Bd O : List At → Tr (Ex × List At)} {μ : List At → Nat}
    (eB : ∀ l, (exec P Γ sy Lp fuel c ⟨mkV lsh l, mkH lsh l⟩).bind (leafL k xs) = Bd l) (h : ∀ l r, (O l).val = some r → RoundS Bd O μ l r) : LoopF P k c (loopFn k lsh xs O) := by
  intro s r hr B φ a w Q hI hE hQ
  unfold loopFn at hr
  split at hr
  · rename_i σ l ht
    rw [Tr.val_bind] at hr
    obtain ⟨⟨e, l'⟩, hO, hr⟩ := Option.bind_eq_some_iff.1 hr
    split at hr
    · rename_i sh hsh
      have := val_ok hr
      subst this
      obtain ⟨φ1, i1, i2⟩ := inv_take B hI hE ht (AtsEq.refl l)
      have key : ∀ (m : Nat) (l1 : List At) (r1 : Ex × List At) (φ' : Phi) (a' : Act) (w' : World), μ l1 < m → (O l1).val = some r1 → r1.1 = e → AtsEq r1.2 l' → Inv φ' ⟨mkV lsh l1, mkH lsh l1⟩ a' w' → Ext B.φ B.H B.w φ' (mkH lsh l1) w' →
          ∀ (b : Frame) (kk : List Item) (cs : List Frame), ∃ e2 a2 w2, Q e2 a2 w2 ∧ Arrives P (lone (b.at a' (.code c :: .inLoop c :: kk)) cs w') b kk cs e2 a2 w2 := by
        intro m
        induction m with
        | zero => intro l1 r1 φ' a' w' hm; omega
        | succ m ih =>
          intro l1 rr φ' a' w' hm1 hO1 he1 hl1 hI' hE' b kk cs
          have body : ∀ {r1 : Ex × List At}, (Bd l1).val = some r1 → ∃ r2 : Ex × ASt, (exec P Γ sy Lp fuel c ⟨mkV lsh l1, mkH lsh l1⟩).val = some r2 ∧ r2.1 = r1.1 ∧ ∃ sh1 σ1, xs r1.1 = some sh1 ∧ takeF k sh1 r2.2.tm r2.2.hp = some (σ1, r1.2) := by
            intro r1 hr1
            rw [← eB l1, Tr.val_bind] at hr1
            obtain ⟨r2, g1, g2⟩ := Option.bind_eq_some_iff.1 hr1
            unfold leafL at g2
            split at g2
            · rename_i sh1 hsh1
              split at g2
              · rename_i σ1 l2 ht1
                have := val_ok g2
                subst this
                exact ⟨r2, g1, rfl, sh1, σ1, hsh1, ht1⟩
              · simp [Tr.val] at g2
            · simp [Tr.val] at g2
          obtain ⟨⟨e1, l2⟩, g1, hcase⟩ := h l1 rr hO1
          rcases hcase with ⟨h1, l3, r3, g2, g3, g4, g5, g6⟩ | ⟨hne, g3, g4⟩
          · simp only at h1 g2
            subst h1
            obtain ⟨⟨re, rs⟩, q1, q2, sh1, σ1, q3, q4⟩ := body g1
            simp only at q2 q3 q4
            subst q2
            rw [hx] at q3
            cases q3
            have hg := exec_goes hΓ hm c hL _ _ q1
            have hw := hg B φ' a' w' (fun e2 a2 w2 => e2 = .normal ∧ ∃ φ2, Inv φ2 rs a2 w2 ∧ Ext B.φ B.H B.w φ2 rs.hp w2) hI' hE' (fun φ2 a2 w2 i1 i2 => ⟨rfl, φ2, i1, i2⟩)
            obtain ⟨e2, a2, w2, ⟨rfl, φ2, j1, j2⟩, harr⟩ := hw b (.inLoop c :: kk) cs
            obtain ⟨φ3, j3, j4⟩ := inv_take B j1 j2 q4 g2
            obtain ⟨e3, a3, w3, hq3, harr3⟩ := ih l3 r3 φ3 a2 w2 (by omega) g4 (g5.trans he1) (g6.trans hl1) j3 j4 b kk cs
            exact ⟨e3, a3, w3, hq3, .of_steps (Steps.trans harr (.one step_inLoop)) harr3⟩
          · simp only at hne g3 g4
            obtain ⟨⟨re, rs⟩, q1, q2, sh1, σ1, q3, q4⟩ := body g1
            simp only at q2 q3 q4
            subst q2
            rw [he1] at g3
            subst g3
            rw [hsh] at q3
            cases q3
            have hg := exec_goes hΓ hm c hL _ _ q1
            have hw := hg B φ' a' w' (fun e2 a2 w2 => e2 = e.toExit ∧ Q e2 a2 w2) hI' hE' (fun φ2 a2 w2 i1 i2 => by
              obtain ⟨φ3, j3, j4⟩ := inv_take B i1 i2 q4 (g4.trans hl1)
              exact ⟨rfl, hQ φ3 a2 w2 j3 j4⟩)
            obtain ⟨e2, a2, w2, ⟨rfl, hq⟩, harr⟩ := hw b (.inLoop c :: kk) cs
            have hne' : e.toExit ≠ .normal := by
              cases e with
              | normal => exact absurd rfl hne
              | exit id => simp [Ex.toExit]
              | ret => simp [Ex.toExit]
            refine ⟨_, a2, w2, hq, .pass (x := .inLoop c) ?_ (fun _ _ => .inl hne') harr⟩
            cases e <;> first
              | exact absurd rfl hne
              | rfl
      intro b kk cs
      obtain ⟨e2, a2, w2, hq, harr⟩ := key (μ l + 1) l (e, l') φ1 a w (by omega) hO rfl (AtsEq.refl _) i1 i2 b kk cs
      exact ⟨e2, a2, w2, hq, .of_steps (.one step_loop) harr⟩
    · simp [Tr.val] at hr
  · simp [Tr.val] at hr
end

/-! ### what stands in a tree's result -/

theorem fine_of_val {α : Type} {T : Tr α} {r : α} (h : T.val = some r) : T.fine = true := by
  induction T with
  | ok a => rfl
  | br g c t e iht ihe => cases c <;> simp only [Tr.val] at h <;> simp only [Tr.fine, cond_true, cond_false] <;> first | exact iht h | exact ihe h
  | no => cases h
theorem fine_of_sat {α : Type} {T : Tr α} {Q : α → Prop} (h : T.sat Q) : T.fine = true := let ⟨_, h1, _⟩ := h; fine_of_val h1
theorem aI_of_val {i : Nat} {T : Tr (List At)} {r : List At} (h : T.val = some r) : T.aI i = AM.aI r i := by
  induction T with
  | ok a => cases h; rfl
  | br g c t e iht ihe => cases c <;> simp only [Tr.val] at h <;> simp only [Tr.aI, cond_true, cond_false] <;> first | exact iht h | exact ihe h
  | no => cases h
theorem aB_of_val {i : Nat} {T : Tr (List At)} {r : List At} (h : T.val = some r) : T.aB i = AM.aB r i := by
  induction T with
  | ok a => cases h; rfl
  | br g c t e iht ihe => cases c <;> simp only [Tr.val] at h <;> simp only [Tr.aB, cond_true, cond_false] <;> first | exact iht h | exact ihe h
  | no => cases h

section
variable {α : Type} {i : Nat} {c : Bool} {t e : Tr α} {Q : α → Prop}
theorem brT (h : c = true) (ht : t.sat Q) : (Tr.br i c t e).sat Q := by
  obtain ⟨r, h1, h2⟩ := ht
  exact ⟨r, (br_t h).trans h1, h2⟩
theorem brF (h : c = false) (ht : e.sat Q) : (Tr.br i c t e).sat Q := by
  obtain ⟨r, h1, h2⟩ := ht
  exact ⟨r, (br_f h).trans h1, h2⟩
theorem brD {p : Prop} [Decidable p] (ht : p → t.sat Q) (he : ¬ p → e.sat Q) : (Tr.br i (decide p) t e).sat Q := Tr.sat_br.2 ⟨fun h => ht (of_decide_eq_true h), fun h => he (of_decide_eq_false h)⟩
theorem brND {p : Prop} [Decidable p] (ht : ¬ p → t.sat Q) (he : p → e.sat Q) : (Tr.br i (!decide p) t e).sat Q := Tr.sat_br.2 ⟨fun h => ht (of_decide_eq_false (by simpa using h)), fun h => he (of_decide_eq_true (by simpa using h))⟩
theorem brQ {x y : Int} (ht : x = y → t.sat Q) (he : x ≠ y → e.sat Q) : (Tr.br i (x == y) t e).sat Q := Tr.sat_br.2 ⟨fun h => ht (by simpa using h), fun h => he (by simpa using h)⟩
theorem brNQ {x y : Int} (ht : x ≠ y → t.sat Q) (he : x = y → e.sat Q) : (Tr.br i (!(x == y)) t e).sat Q := Tr.sat_br.2 ⟨fun h => ht (by simpa using h), fun h => he (by simpa using h)⟩
theorem brNE {x y : Int} (ht : x ≠ y → t.sat Q) (he : x = y → e.sat Q) : (Tr.br i (x != y) t e).sat Q := Tr.sat_br.2 ⟨fun h => ht (by simpa using h), fun h => he (by simpa using h)⟩
theorem brW {x : Int} {n : Nat} (ht : 0 ≤ x ∧ x < (n : Int) → t.sat Q) (he : ¬ (0 ≤ x ∧ x < (n : Int)) → e.sat Q) : (Tr.br i (within x n) t e).sat Q :=
  Tr.sat_br.2 ⟨fun h => ht (by simpa [within] using h), fun h => he (fun hh => by simp [within, hh] at h)⟩
theorem brN {b : Bool} (ht : b = false → t.sat Q) (he : b = true → e.sat Q) : (Tr.br i (!b) t e).sat Q := Tr.sat_br.2 ⟨fun h => ht (by simpa using h), fun h => he (by simpa using h)⟩
theorem brC (ht : c = true → t.sat Q) (he : c = false → e.sat Q) : (Tr.br i c t e).sat Q := Tr.sat_br.2 ⟨ht, he⟩
end
end Go.AM
