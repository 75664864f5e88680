/-
  The abstract machine, part 12: code.
-/
import Derived.Test.YtepdekambalmhaaAmJ
namespace Go.AM

inductive Ex where
  | normal
  | exit (id : Nat)
  | ret
  deriving DecidableEq

def Ex.toExit : Ex → Exit
  | .normal => .normal
  | .exit id => .exit id
  | .ret => .ret

/-- The number of the first region in some code: what a loop is known by. -/
def firstReg : Code → Option Nat
  | .region id _ _ => some id
  | .seq a b => match firstReg a with
    | some k => some k
    | none => firstReg b
  | .cond _ a b => match firstReg a with
    | some k => some k
    | none => firstReg b
  | .block _ c => firstReg c
  | .loop c => firstReg c
  | .scope c => firstReg c
  | _ => none

/-- What a loop comes to, if that is known. -/
abbrev Loops := Nat → Option (ASt → Tr (Ex × ASt))

def rounds (f : ASt → Tr (Ex × ASt)) : Nat → ASt → Tr (Ex × ASt)
  | 0, _ => .no
  | n + 1, s => (f s).bind fun r => match r.1 with
    | .normal => rounds f n r.2
    | _ => .ok r

def symOf (sy : Nat → Option Nat) : Operand → Option (Nat × Nat)
  | .tmp d => match sy d with
    | some g => some (d, g)
    | none => none
  | _ => none

/-- What an operand is, and whether it is known. -/
def knownT (tm : List TV) : Operand → TV
  | .tmp t => tm.getD t (.tup [])
  | x => evalT tm x

def drawOk (P : Program) (Γ : Specs) (ops : Array Oper) : Bool → Bool
  | true => orderOk P Γ ops.toList
  | false => true

/-- Where the region's number is marked, its ways are laid together. -/
def joinOr (P : Program) (Γ : Specs) (y : Option Nat) (ops : List Oper) (tm : List TV) (H : AH) (T : Tr ASt) : Tr ASt :=
  match y with
  | some _ => joinR P Γ ops tm H T
  | none => T

def exec (P : Program) (Γ : Specs) (sy : Nat → Option Nat) (Lp : Loops) (fuel : Nat) : Code → ASt → Tr (Ex × ASt)
  | .skip, s => .ok (.normal, s)
  | .label _, s => .ok (.normal, s)
  | .region id ops draw, s =>
    cond (drawOk P Γ ops draw) ((joinOr P Γ (sy (1000000 + id)) ops.toList s.tm s.hp (runOps P Γ sy ops.toList ops.toList s.tm s.hp)).bind fun s' => forceL s'.tm fun tm => .ok (.normal, ⟨tm, s'.hp⟩)) .no
  | .seq a b, s => (exec P Γ sy Lp fuel a s).bind fun r => match r.1 with
    | .normal => exec P Γ sy Lp fuel b r.2
    | _ => .ok r
  | .cond c t e, s => match knownT s.tm c with
    | .k x => match x with
      | true => exec P Γ sy Lp fuel t s
      | false => exec P Γ sy Lp fuel e s
    | .v (.s (.b x)) => match symOf sy c with
      | some (d, g) => .br g x (exec P Γ sy Lp fuel t ⟨s.tm.set d (.k true), s.hp⟩) (exec P Γ sy Lp fuel e ⟨s.tm.set d (.k false), s.hp⟩)
      | none => match x with
        | true => exec P Γ sy Lp fuel t s
        | false => exec P Γ sy Lp fuel e s
    | _ => .no
  | .block id c, s => (exec P Γ sy Lp fuel c s).bind fun r => match r.1 with
    | .exit id' => if id' = id then .ok (.normal, r.2) else .ok r
    | _ => .ok r
  | .loop c, s => match (firstReg c).bind Lp with
    | some F => F s
    | none => rounds (exec P Γ sy Lp fuel c) fuel s
  | .exit id, s => .ok (.exit id, s)
  | .ret, s => .ok (.ret, s)
  | _, _ => .no

/-- The machine stands as the abstract one does. -/
structure Inv (φ : Phi) (s : ASt) (a : Act) (w : World) : Prop where
  rep : Rep φ s.hp w.heap
  tm : All2 (relT φ) s.tm a.tmps.toList
  df : a.defers = []

/-- Where a function began: what stood in the first 'k' blocks. -/
structure Base (k : Nat) where
  φ : Phi
  H : AH
  w : World
  lφ : φ.length = k
  lH : H.length = k

/-- What code comes to from one abstract state, in a function that began with 'k' blocks. -/
def Goes (P : Program) (k : Nat) (c : Code) (s : ASt) (r : Ex × ASt) : Prop :=
  ∀ (B : Base k) φ a w Q, Inv φ s a w → Ext B.φ B.H B.w φ s.hp w → (∀ φ' a' w', Inv φ' r.2 a' w' → Ext B.φ B.H B.w φ' r.2.hp w' → Q r.1.toExit a' w') → c.wp P Q a w

def LoopF (P : Program) (k : Nat) (c : Code) (F : ASt → Tr (Ex × ASt)) : Prop := ∀ s r, (F s).val = some r → Goes P k (.loop c) s r

def loopsIn : Code → List (Nat × Code)
  | .seq a b => loopsIn a ++ loopsIn b
  | .cond _ a b => loopsIn a ++ loopsIn b
  | .block _ c => loopsIn c
  | .loop c => (match firstReg c with | some k => [(k, c)] | none => []) ++ loopsIn c
  | .scope c => loopsIn c
  | _ => []

def LoopsOK (P : Program) (k : Nat) (Lp : Loops) (c : Code) : Prop := ∀ p ∈ loopsIn c, ∀ F, Lp p.1 = some F → LoopF P k p.2 F

section
variable {P : Program} {Γ : Specs} {sy : Nat → Option Nat} {Lp : Loops} {fuel k0 : Nat}

theorem goes_loop {c : Code} (h : ∀ n s r, (rounds (exec P Γ sy Lp fuel c) n s).val = some r → ∀ s' r', (exec P Γ sy Lp fuel c s').val = some r' → Goes P k0 c s' r') :
    ∀ (n : Nat) (s : ASt) (r : Ex × ASt), (rounds (exec P Γ sy Lp fuel c) n s).val = some r → Goes P k0 (.loop c) s r := by
  intro n s r hr B φ a w Q hI hE0 hQ
  have key : ∀ (m : Nat) (s' : ASt) (φ' : Phi) (a' : Act) (w' : World), (rounds (exec P Γ sy Lp fuel c) m s').val = some r → Inv φ' s' a' w' → Ext B.φ B.H B.w φ' s'.hp w' →
      ∀ (b : Frame) (k : List Item) (cs : List Frame), ∃ e a2 w2, Q e a2 w2 ∧ Arrives P (lone (b.at a' (.code c :: .inLoop c :: k)) cs w') b k cs e a2 w2 := by
    intro m
    induction m with
    | zero => intro s' φ' a' w' hm; simp [rounds, Tr.val] at hm
    | succ m ih =>
      intro s' φ' a' w' hm hI' hE b k cs
      have hm0 := hm
      rw [rounds, Tr.val_bind] at hm
      cases he : (exec P Γ sy Lp fuel c s').val with
      | none => simp [he] at hm
      | some r' =>
        simp only [he, Option.bind_some] at hm
        have hg := h (m + 1) s' r hm0 s' r' he
        obtain ⟨re, rs⟩ := r'
        cases re with
        | normal =>
          simp only at hm
          have hw := hg B φ' a' w' (fun e a2 w2 => e = .normal ∧ ∃ φ2, Inv φ2 rs a2 w2 ∧ Ext B.φ B.H B.w φ2 rs.hp w2) hI' hE (fun φ2 a2 w2 i1 i2 => ⟨rfl, φ2, i1, i2⟩)
          obtain ⟨e, a2, w2, ⟨rfl, φ2, i1, i2⟩, harr⟩ := hw b (.inLoop c :: k) cs
          obtain ⟨e3, a3, w3, hq3, harr3⟩ := ih rs φ2 a2 w2 hm i1 i2 b k cs
          exact ⟨e3, a3, w3, hq3, .of_steps (Steps.trans harr (.one step_inLoop)) harr3⟩
        | exit id =>
          have := val_ok hm
          subst this
          have hw := hg B φ' a' w' (fun e a2 w2 => e = .exit id ∧ Q e a2 w2) hI' hE (fun φ2 a2 w2 i1 i2 => ⟨rfl, hQ φ2 a2 w2 i1 i2⟩)
          obtain ⟨e, a2, w2, ⟨rfl, hq⟩, harr⟩ := hw b (.inLoop c :: k) cs
          exact ⟨_, a2, w2, hq, .pass (x := .inLoop c) rfl (fun _ _ => .inl (by simp)) harr⟩
        | ret =>
          have := val_ok hm
          subst this
          have hw := hg B φ' a' w' (fun e a2 w2 => e = .ret ∧ Q e a2 w2) hI' hE (fun φ2 a2 w2 i1 i2 => ⟨rfl, hQ φ2 a2 w2 i1 i2⟩)
          obtain ⟨e, a2, w2, ⟨rfl, hq⟩, harr⟩ := hw b (.inLoop c :: k) cs
          exact ⟨_, a2, w2, hq, .pass (x := .inLoop c) rfl (fun _ _ => .inl (by simp)) harr⟩
  intro b k cs
  obtain ⟨e, a', w', hq, harr⟩ := key n s φ a w hr hI hE0 b k cs
  exact ⟨e, a', w', hq, .of_steps (.one step_loop) harr⟩

theorem exec_goes (hΓ : SpecOK P Γ) (hm : P.follows .mixedOrders = true) : ∀ (c : Code), LoopsOK P k0 Lp c → ∀ (s : ASt) (r : Ex × ASt), (exec P Γ sy Lp fuel c s).val = some r → Goes P k0 c s r
  | .skip, _, s, r, h => by
    have := val_ok h; subst this
    exact fun B φ a w Q hI hE hQ => wp_skip (hQ φ a w hI hE)
  | .label l, _, s, r, h => by
    have := val_ok h; subst this
    exact fun B φ a w Q hI hE hQ => wp_label (hQ φ a w hI hE)
  | .exit id, _, s, r, h => by
    have := val_ok h; subst this
    exact fun B φ a w Q hI hE hQ => wp_exit (hQ φ a w hI hE)
  | .ret, _, s, r, h => by
    have := val_ok h; subst this
    exact fun B φ a w Q hI hE hQ => wp_ret (hQ φ a w hI hE)
  | .region id ops draw, _, s, r, h => by
    intro B φ a w Q hI hE hQ
    rw [exec] at h
    cases hd : drawOk P Γ ops draw with
    | false => simp [hd, Tr.val] at h
    | true =>
      simp only [hd, cond_true] at h
      rw [Tr.val_bind] at h
      cases hj : (joinOr P Γ (sy (1000000 + id)) ops.toList s.tm s.hp (runOps P Γ sy ops.toList ops.toList s.tm s.hp)).val with
      | none => simp [hj] at h
      | some s1 =>
        simp only [hj, Option.bind_some, forceL_eq] at h
        have := val_ok h
        subst this
        unfold joinOr at hj
        split at hj
        · obtain ⟨s', hs, e1, e2, hrel⟩ := joinR_sound hj
          refine wp_region_am (sy := sy) hΓ hm (fun hdr => ?_) (runOps_chain hs) hI.rep (map_unk_rel.2 hI.tm) hI.df fun φ' w' a' g1 g2 g3 g4 => hQ φ' a' w' ⟨?_, hrel φ' _ (map_unk_rel.1 g2), g3⟩ (hE.trans ?_)
          · rw [hdr] at hd
            exact hd
          · rw [e2, ← e1]; exact g1
          · rw [e1] at g4
            rw [show (⟨s1.tm, s1.hp⟩ : ASt).hp = s.hp from e2]
            exact g4
        have hs := hj
        refine wp_region_am (sy := sy) hΓ hm (fun hdr => ?_) (runOps_chain hs) hI.rep (map_unk_rel.2 hI.tm) hI.df fun φ' w' a' g1 g2 g3 g4 => hQ φ' a' w' ⟨g1, map_unk_rel.1 g2, g3⟩ (hE.trans g4)
        rw [hdr] at hd
        exact hd
  | .seq x y, hL, s, r, h => by
    intro B φ a w Q hI hE hQ
    rw [exec, Tr.val_bind] at h
    cases hx : (exec P Γ sy Lp fuel x s).val with
    | none => simp [hx] at h
    | some r1 =>
      simp only [hx, Option.bind_some] at h
      have hLx : LoopsOK P k0 Lp x := fun p hp => hL p (by simp [loopsIn, hp])
      have hLy : LoopsOK P k0 Lp y := fun p hp => hL p (by simp [loopsIn, hp])
      refine wp_seq (exec_goes hΓ hm x hLx s r1 hx B φ a w _ hI hE fun φ1 a1 w1 i1 i2 => ?_)
      obtain ⟨re, rs⟩ := r1
      cases re with
      | normal =>
        simp only at h
        exact exec_goes hΓ hm y hLy rs r h B φ1 a1 w1 Q i1 i2 hQ
      | exit id => have := val_ok h; subst this; exact hQ φ1 a1 w1 i1 i2
      | ret => have := val_ok h; subst this; exact hQ φ1 a1 w1 i1 i2
  | .cond c x y, hL, s, r, h => by
    intro B φ a w Q hI hE hQ
    rw [exec] at h
    have hLx : LoopsOK P k0 Lp x := fun p hp => hL p (by simp [loopsIn, hp])
    have hLy : LoopsOK P k0 Lp y := fun p hp => hL p (by simp [loopsIn, hp])
    have hkn : ∀ {v : TV}, knownT s.tm c = v → relT φ v (a.eval c) := by
      rintro v rfl
      have := evalT_rel hI.tm c
      cases c with
      | tmp t => exact unk_rel.1 this
      | _ => exact this
    split at h
    · rename_i b hc
      have hcv : a.eval c = .bool b := hkn hc
      refine wp_cond hcv ?_
      cases b
      · simp only [Bool.false_eq_true, if_false]
        exact exec_goes hΓ hm y hLy s r h B φ a w Q hI hE hQ
      · simp only [if_true]
        exact exec_goes hΓ hm x hLx s r h B φ a w Q hI hE hQ
    · rename_i b hc
      have hcv : a.eval c = .bool b := hkn hc
      refine wp_cond hcv ?_
      split at h
      · rename_i d g hd
        have hsame : Inv φ ⟨s.tm.set d (.k b), s.hp⟩ a w := by
          refine ⟨hI.rep, ?_, hI.df⟩
          have hg : s.tm[d]? = some (.v (.s (.b b))) := by
            cases c with
            | tmp d' =>
              simp only [symOf] at hd
              split at hd
              · cases hd
                simp only [knownT] at hc
                cases hg : s.tm[d]? with
                | none => rw [List.getD_eq_getElem?_getD, hg] at hc; simp at hc
                | some v =>
                  rw [List.getD_eq_getElem?_getD, hg] at hc
                  simp at hc
                  rw [hc]
              · cases hd
            | const _ => cases hd
            | global _ => cases hd
            | func _ => cases hd
          have := map_unk_rel.2 hI.tm
          rw [← set_map hg] at this
          exact map_unk_rel.1 this
        cases b
        · simp only [Tr.val] at h
          simp only [Bool.false_eq_true, if_false]
          exact exec_goes hΓ hm y hLy _ r h B φ a w Q hsame hE hQ
        · simp only [Tr.val] at h
          simp only [if_true]
          exact exec_goes hΓ hm x hLx _ r h B φ a w Q hsame hE hQ
      · cases b
        · simp only [Bool.false_eq_true, if_false]
          exact exec_goes hΓ hm y hLy s r h B φ a w Q hI hE hQ
        · simp only [if_true]
          exact exec_goes hΓ hm x hLx s r h B φ a w Q hI hE hQ
    · simp [Tr.val] at h
  | .block id c, hL, s, r, h => by
    intro B φ a w Q hI hE hQ
    rw [exec, Tr.val_bind] at h
    cases hx : (exec P Γ sy Lp fuel c s).val with
    | none => simp [hx] at h
    | some r1 =>
      simp only [hx, Option.bind_some] at h
      have hLc : LoopsOK P k0 Lp c := fun p hp => hL p (by simp [loopsIn, hp])
      refine wp_block (exec_goes hΓ hm c hLc s r1 hx B φ a w _ hI hE fun φ1 a1 w1 i1 i2 => ?_)
      obtain ⟨re, rs⟩ := r1
      cases re with
      | normal => have := val_ok h; subst this; exact hQ φ1 a1 w1 i1 i2
      | exit id' =>
        simp only at h
        split at h
        · rename_i e
          have := val_ok h; subst this
          simp only [Ex.toExit, Exit.inBlock, e, if_true]
          exact hQ φ1 a1 w1 i1 i2
        · rename_i e
          have := val_ok h; subst this
          simp only [Ex.toExit, Exit.inBlock, e, if_false]
          exact hQ φ1 a1 w1 i1 i2
      | ret => have := val_ok h; subst this; exact hQ φ1 a1 w1 i1 i2
  | .loop c, hL, s, r, h => by
    rw [exec] at h
    have hLc : LoopsOK P k0 Lp c := fun p hp => hL p (by simp [loopsIn, hp])
    split at h
    · rename_i F hF
      cases hk : firstReg c with
      | none => simp [hk] at hF
      | some k =>
        simp only [hk, Option.bind_some] at hF
        exact hL (k, c) (by simp [loopsIn, hk]) F hF s r h
    · exact goes_loop (fun _ _ _ _ s' r' h' => exec_goes hΓ hm c hLc s' r' h') fuel s r h
  | .rangeFunc .., _, s, r, h => by simp [exec, Tr.val] at h
  | .scope _, _, s, r, h => by simp [exec, Tr.val] at h
  | .goto _, _, s, r, h => by simp [exec, Tr.val] at h
  | .refuse _, _, s, r, h => by simp [exec, Tr.val] at h

end
end Go.AM
