/-
  The abstract machine, part 11: whatever order the tape picks.
-/
import Derived.Test.YthgagehgiooklaaAmNToAmA
section
namespace Go.AM

section
variable {P : Program} {Γ : Specs} {sy : Nat → Option Nat}

theorem cl_eq (x : Cl) : x = .N ∨ x = .R ∨ x = .E := by cases x <;> simp

theorem meets_dst_look {ops : List Oper} {x y : Oper} {t : Nat} (hx : x.dst = some t) (hy : t ∈ looks ops y) : meets (infoOf P Γ ops x) (infoOf P Γ ops y) = true := by
  simp only [meets, infoOf, memb, hx, Bool.or_eq_true]
  exact .inl (.inl (.inl (by simpa using hy)))

theorem meets_look_dst {ops : List Oper} {x y : Oper} {t : Nat} (hy : y.dst = some t) (hx : t ∈ looks ops x) : meets (infoOf P Γ ops x) (infoOf P Γ ops y) = true := by
  simp only [meets, infoOf, memb, hy, Bool.or_eq_true]
  exact .inl (.inl (.inr (by simpa using hx)))

theorem meets_dst_dst {ops : List Oper} {x y : Oper} {t : Nat} (hx : x.dst = some t) (hy : y.dst = some t) : meets (infoOf P Γ ops x) (infoOf P Γ ops y) = true := by
  simp only [meets, infoOf, memb, hx, hy, Bool.or_eq_true]
  exact .inl (.inr (by simp))

theorem meets_E {ops : List Oper} {x y : Oper} (h : cls P Γ x.op = .E ∧ cls P Γ y.op ≠ .N ∨ cls P Γ x.op = .R ∧ cls P Γ y.op = .E ∧ isAlloc y.op = false) : meets (infoOf P Γ ops x) (infoOf P Γ ops y) = true := by
  simp only [meets, infoOf, Bool.or_eq_true]
  right
  rcases h with ⟨h1, h2⟩ | ⟨h1, h2, h3⟩
  · rw [h1]; rcases cl_eq (cls P Γ y.op) with e | e | e <;> rw [e] at h2 ⊢; exact (h2 rfl).elim
  · rw [h1, h2, h3]; rfl

theorem wpAny_run (hΓ : SpecOK P Γ) {ops : Array Oper} {Q : Exit → Act → World → Prop} (hok : orderOk P Γ ops.toList = true) {T : Nat → List TV} {Hs : Nat → AH} {vs : Nat → TV} (hr : Run P Γ sy ops.toList T Hs vs) :
    ∀ (fuel : Nat) (listed : Array Bool) (a : Act) (w : World) (φ : Phi) (tm : List TV) (H : AH),
      listed.size = ops.size → listed.toList.countP (· == false) ≤ fuel →
      (∀ (k : Nat) (o : Oper), ops.toList[k]? = some o → listed.getD k false = true → ∀ e ∈ o.after.toList, Region.binds .any e = true → listed.getD e.on false = true) →
      tm.length = (T 0).length → (∀ t, tm[t]? = valAt ops.toList vs (T 0) (fun k => listed.getD k false) ops.size t) → H = heapAt P Γ ops.toList Hs (fun k => listed.getD k false) ops.size →
      Rep φ H w.heap → All2 (relT φ) tm a.tmps.toList → a.defers = [] →
      (∀ φ' w' a', Rep φ' (Hs ops.size) w'.heap → All2 (relT φ') (T ops.size) a'.tmps.toList → a'.defers = [] → Ext φ H w φ' (Hs ops.size) w' → Q .normal a' w') →
      wpAny P .any ops Q fuel listed a w := by
  have hE := (by simpa only [orderOk, Bool.and_eq_true] using hok : edgesOk 0 ops.toList = true ∧ _).1
  -- when nothing may come up, all have
  have alldone : ∀ (listed : Array Bool), listed.size = ops.size → Region.ready .any ops listed = [] → ∀ k, k < ops.size → listed.getD k false = true := by
    intro listed hsz hnone k
    induction k using Nat.strongRecOn with
    | _ k ih =>
      intro hk
      cases hl : listed.getD k false with
      | true => rfl
      | false =>
        exfalso
        have hmem : k ∈ Region.ready .any ops listed := by
          refine mem_ready.2 ⟨?_, ops[k], Array.getElem?_eq_getElem hk, ?_⟩
          · simp [hsz, hk] at hl ⊢; exact hl
          · intro e he hb
            have hlt := edgesOk_spec hE k ops[k] (by simp [hk]) e (by simpa using he) hb
            exact ih e.on (by omega) (by omega)
        rw [hnone] at hmem
        cases hmem
  have fin : ∀ (listed : Array Bool) (a : Act) (w : World) (φ : Phi) (tm : List TV) (H : AH), listed.size = ops.size → Region.ready .any ops listed = [] →
      tm.length = (T 0).length → (∀ t, tm[t]? = valAt ops.toList vs (T 0) (fun k => listed.getD k false) ops.size t) → H = heapAt P Γ ops.toList Hs (fun k => listed.getD k false) ops.size →
      Rep φ H w.heap → All2 (relT φ) tm a.tmps.toList → a.defers = [] →
      (∀ φ' w' a', Rep φ' (Hs ops.size) w'.heap → All2 (relT φ') (T ops.size) a'.tmps.toList → a'.defers = [] → Ext φ H w φ' (Hs ops.size) w' → Q .normal a' w') → Q .normal a w := by
    intro listed a w φ tm H hsz hnone hlen htm hH hrep hrel hd hQ
    have hall := alldone listed hsz hnone
    have e1 : tm = T ops.size := by
      apply List.ext_getElem?
      intro t
      rw [htm t, hr.val ops.size (by simp) t]
      unfold valAt
      rw [lastW_congr fun j hj _ => hall j hj]
    have e2 : H = Hs ops.size := by
      rw [hH, hr.heap ops.size (by simp)]
      unfold heapAt
      rw [lastE_congr fun j hj _ => hall j hj]
    subst e1; subst e2
    exact hQ φ w a hrep hrel hd (Ext.refl _ _ _)
  intro fuel
  induction fuel with
  | zero =>
    intro listed a w φ tm H hsz hcnt hcl hlen htm hH hrep hrel hd hQ
    have hnone : Region.ready .any ops listed = [] := by
      cases hrd : Region.ready .any ops listed with
      | nil => rfl
      | cons i rest =>
        exfalso
        have hi : i ∈ Region.ready .any ops listed := by rw [hrd]; simp
        obtain ⟨hun, oi, hoi, _⟩ := mem_ready.1 hi
        have hlt : i < listed.size := by
          rcases Nat.lt_or_ge i listed.size with h' | h'
          · exact h'
          · simp [Array.getElem?_eq_none h'] at hun
        have hpos : 0 < listed.toList.countP (· == false) := by
          refine List.countP_pos_iff.2 ⟨listed[i], by simp, ?_⟩
          simp [hlt] at hun ⊢; exact hun
        omega
    exact ⟨hnone, fin listed a w φ tm H hsz hnone hlen htm hH hrep hrel hd hQ⟩
  | succ fuel ih =>
    intro listed a w φ tm H hsz hcnt hcl hlen htm hH hrep hrel hd hQ
    refine ⟨fun hnone => fin listed a w φ tm H hsz hnone hlen htm hH hrep hrel hd hQ, fun i hi => ?_⟩
    obtain ⟨hun, o, ho, hready⟩ := mem_ready.1 hi
    have hol : ops.toList[i]? = some o := by simpa using ho
    have hin : i < ops.size := by
      rcases Nat.lt_or_ge i ops.size with h' | h'
      · exact h'
      · simp [Array.getElem?_eq_none h'] at ho
    have hil : i < listed.size := by omega
    have hiS : listed.getD i false = false := by simp [hil] at hun ⊢; exact hun
    have hready' : ∀ e ∈ o.after.toList, Region.binds .any e = true → listed.getD e.on false = true := fun e he hb => hready e (by simpa using he) hb
    -- what meets 'i' and stands before it has come up; what meets it and stands behind it has not
    have before : ∀ (j : Nat) (x : Oper), j < i → ops.toList[j]? = some x → meets (infoOf P Γ ops.toList x) (infoOf P Γ ops.toList o) = true → listed.getD j false = true := by
      intro j x hj hx hm
      obtain ⟨m, h1, h2⟩ := waits_of_meets hok hj hx hol hm
      exact closed_mask hok (S := fun k => listed.getD k false) hcl i o m j hol hready' h1 h2
    have behind : ∀ (j : Nat) (x : Oper), i < j → ops.toList[j]? = some x → meets (infoOf P Γ ops.toList o) (infoOf P Γ ops.toList x) = true → listed.getD j false = false := by
      intro j x hj hx hm
      cases hl : listed.getD j false with
      | false => rfl
      | true =>
        obtain ⟨m, h1, h2⟩ := waits_of_meets hok hj hol hx hm
        have := closed_mask hok (S := fun k => listed.getD k false) hcl j x m i hx (hcl j x hx hl) h1 h2
        rw [this] at hiS; cases hiS
    -- what 'i' looks at is what it looks at in the order of the text
    have hlook : ∀ t ∈ looks ops.toList o, (T i)[t]? = tm[t]? := by
      intro t ht
      rw [htm t, hr.val i (by simp; omega) t]
      unfold valAt
      have e1 : lastW ops.toList (fun k => listed.getD k false) t ops.size = lastW ops.toList (fun k => listed.getD k false) t i := by
        refine lastW_skip (by omega) fun j h1 h2 h3 => ?_
        cases hx : ops.toList[j]? with
        | none => simp [hx] at h3
        | some x =>
          simp only [hx, Option.bind_some] at h3
          rcases Nat.eq_or_lt_of_le h1 with rfl | hlt
          · exact hiS
          · exact behind j x hlt hx (meets_look_dst h3 ht)
      have e2 : lastW ops.toList (fun k => listed.getD k false) t i = lastW ops.toList (fun _ => true) t i := by
        refine lastW_congr fun j h1 h3 => ?_
        cases hx : ops.toList[j]? with
        | none => simp [hx] at h3
        | some x =>
          simp only [hx, Option.bind_some] at h3
          exact before j x h1 hx (meets_dst_look h3 ht)
      rw [e1, e2]
    have hM : ∀ f, MonoS (Γ f) := fun f => by
      rcases hΓ f with h0 | ⟨_, _, hm⟩
      · rw [h0]; trivial
      · exact hm
    have hheap0 : cls P Γ o.op ≠ .N → heapAt P Γ ops.toList Hs (fun k => listed.getD k false) i = Hs i := by
      intro hc
      rw [hr.heap i (by simp; omega)]
      unfold heapAt
      have e2 : lastE P Γ ops.toList (fun k => listed.getD k false) i = lastE P Γ ops.toList (fun _ => true) i := by
        refine lastE_congr fun j h1 h3 => ?_
        cases hx : ops.toList[j]? with
        | none => simp [hx] at h3
        | some x =>
          simp only [hx, Option.map_some, Option.some.injEq] at h3
          exact before j x h1 hx (meets_E (.inl ⟨h3, hc⟩))
      rw [e2]
    have hheapR : cls P Γ o.op = .R → ∃ Bs, H = Hs i ++ Bs := by
      intro hc
      have go : ∀ d, i + d ≤ ops.size → ∃ Bs, heapAt P Γ ops.toList Hs (fun k => listed.getD k false) (i + d) = Hs i ++ Bs := by
        intro d
        induction d with
        | zero => intro _; exact ⟨[], by simpa using hheap0 (by rw [hc]; simp)⟩
        | succ d ihd =>
          intro hle
          obtain ⟨Bs, hBs⟩ := ihd (by omega)
          have hk : i + d < ops.size := by omega
          obtain ⟨x, hx⟩ : ∃ x, ops.toList[i + d]? = some x := ⟨ops.toList[i + d]'(by simpa using hk), List.getElem?_eq_getElem (by simpa using hk)⟩
          by_cases hp : listed.getD (i + d) false = true ∧ cls P Γ x.op = .E
          · have hdi : i < i + d := by
              rcases Nat.eq_zero_or_pos d with e | e
              · subst e
                rw [Nat.add_zero] at hx
                rw [hol] at hx; cases hx
                rw [hc] at hp; cases hp.2
              · omega
            have hal : isAlloc x.op = true := by
              cases ha : isAlloc x.op with
              | true => rfl
              | false =>
                have := behind (i + d) x hdi hx (meets_E (.inr ⟨hc, hp.2, ha⟩))
                rw [this] at hp; cases hp.1
            obtain ⟨Cs, hCs⟩ := semOp_alloc (hr.step (i + d) x hx).1 hal
            have e3 : Hs (i + d) = heapAt P Γ ops.toList Hs (fun k => listed.getD k false) (i + d) := by
              rw [hr.heap (i + d) (by simp; omega)]
              unfold heapAt
              rw [lastE_congr fun j h1 h3 => ?_]
              cases hy : ops.toList[j]? with
              | none => simp [hy] at h3
              | some y =>
                simp only [hy, Option.map_some, Option.some.injEq] at h3
                obtain ⟨m, g1, g2⟩ := waits_of_meets hok h1 hy hx (meets_E (.inl ⟨h3, by rw [hp.2]; simp⟩))
                exact (closed_mask hok (S := fun k => listed.getD k false) hcl (i + d) x m j hx (hcl (i + d) x hx hp.1) g1 g2).symm
            refine ⟨Bs ++ Cs, ?_⟩
            have e4 : heapAt P Γ ops.toList Hs (fun k => listed.getD k false) (i + (d + 1)) = Hs (i + d + 1) := by
              unfold heapAt
              rw [show i + (d + 1) = (i + d) + 1 by omega]
              simp only [lastE]
              rw [if_pos ⟨hp.1, by simp [hx, hp.2]⟩]
            rw [e4, hCs, e3, hBs, List.append_assoc]
          · refine ⟨Bs, ?_⟩
            rw [← hBs]
            unfold heapAt
            rw [show i + (d + 1) = (i + d) + 1 by omega]
            simp only [lastE]
            rw [if_neg]
            rintro ⟨h1, h2⟩
            simp only [hx, Option.map_some, Option.some.injEq] at h2
            exact hp ⟨h1, h2⟩
      obtain ⟨Bs, hBs⟩ := go (ops.size - i) (by omega)
      rw [show i + (ops.size - i) = ops.size by omega] at hBs
      exact ⟨Bs, by rw [hH, hBs]⟩
    have hheap : cls P Γ o.op = .E → H = Hs i := by
      intro hcE
      have hc : cls P Γ o.op ≠ .N := by rw [hcE]; simp
      rw [hH, hr.heap i (by simp; omega)]
      unfold heapAt
      have e1 : lastE P Γ ops.toList (fun k => listed.getD k false) ops.size = lastE P Γ ops.toList (fun k => listed.getD k false) i := by
        refine lastE_skip (by omega) fun j h1 h2 h3 => ?_
        cases hx : ops.toList[j]? with
        | none => simp [hx] at h3
        | some x =>
          simp only [hx, Option.map_some, Option.some.injEq] at h3
          rcases Nat.eq_or_lt_of_le h1 with rfl | hlt
          · exact hiS
          · exact behind j x hlt hx (meets_E (.inl ⟨hcE, by rw [h3]; simp⟩))
      have e2 : lastE P Γ ops.toList (fun k => listed.getD k false) i = lastE P Γ ops.toList (fun _ => true) i := by
        refine lastE_congr fun j h1 h3 => ?_
        cases hx : ops.toList[j]? with
        | none => simp [hx] at h3
        | some x =>
          simp only [hx, Option.map_some, Option.some.injEq] at h3
          exact before j x h1 hx (meets_E (.inl ⟨h3, hc⟩))
      rw [e1, e2]
    obtain ⟨H', hsem, hE1, hE2⟩ := semOp_congr (hr.step i o hol).1 hlook hM hheap hheapR
    refine wpOp_sound hΓ ho hsem hrep hrel fun φ' w' v g1 g2 g3 => ?_
    have hlistget : ∀ k, (listed.setIfInBounds i true).getD k false = if k = i then true else listed.getD k false := by
      intro k
      by_cases e : k = i
      · subst e; simp [hil]
      · rw [if_neg e]; exact getD_set_ne false (fun e' => e e'.symm)
    refine ih (listed.setIfInBounds i true) _ w' φ' (putT tm o.dst (vs i)) H' (by simp [hsz]) ?_ ?_ (by rw [putT_length, hlen]) ?_ ?_ g2 ?_ (by cases o.dst <;> exact hd) ?_
    · have hcs := List.countP_set (p := (· == false)) (l := listed.toList) (i := i) (a := true) (by simpa using hil)
      have hli : listed.toList[i]'(by simpa using hil) = false := by simp [hil] at hun ⊢; exact hun
      have h1 : (if (listed.toList[i]'(by simpa using hil) == false) = true then 1 else 0) = 1 := by rw [hli]; rfl
      have h2 : (if (true == false) = true then 1 else 0) = 0 := rfl
      rw [Array.toList_setIfInBounds, hcs, h1, h2]
      omega
    · intro k x hx hk e he hb
      rw [hlistget] at hk ⊢
      by_cases e1 : k = i
      · subst e1
        rw [hol] at hx; cases hx
        split
        · rfl
        · exact hready' e he hb
      · rw [if_neg e1] at hk
        split
        · rfl
        · exact hcl k x hx hk e he hb
    · intro t
      rw [putT_get]
      unfold valAt
      by_cases hdt : o.dst = some t
      · rw [if_pos hdt]
        have e1 : lastW ops.toList (fun k => (listed.setIfInBounds i true).getD k false) t ops.size = some i := by
          rw [lastW_skip (i := i + 1) (by omega)]
          · simp only [lastW]
            rw [if_pos]
            exact ⟨by rw [hlistget]; simp, by simp [hol, hdt]⟩
          · intro j h1 h2 h3
            cases hx : ops.toList[j]? with
            | none => simp [hx] at h3
            | some x =>
              simp only [hx, Option.bind_some] at h3
              rw [hlistget, if_neg (by omega)]
              exact behind j x (by omega) hx (meets_dst_dst hdt h3)
        rw [e1, hlen]
      · rw [if_neg hdt, htm t]
        unfold valAt
        have e1 : lastW ops.toList (fun k => (listed.setIfInBounds i true).getD k false) t ops.size = lastW ops.toList (fun k => listed.getD k false) t ops.size := by
          refine lastW_congr fun j _ h3 => ?_
          rw [hlistget, if_neg]
          rintro rfl
          simp only [hol, Option.bind_some] at h3
          exact hdt h3
        rw [e1]
    · by_cases hc : cls P Γ o.op = .E
      · rw [hE1 hc]
        unfold heapAt
        have e1 : lastE P Γ ops.toList (fun k => (listed.setIfInBounds i true).getD k false) ops.size = some i := by
          rw [lastE_skip (i := i + 1) (by omega)]
          · simp only [lastE]
            rw [if_pos]
            exact ⟨by rw [hlistget]; simp, by simp [hol, hc]⟩
          · intro j h1 h2 h3
            cases hx : ops.toList[j]? with
            | none => simp [hx] at h3
            | some x =>
              simp only [hx, Option.map_some, Option.some.injEq] at h3
              rw [hlistget, if_neg (by omega)]
              exact behind j x (by omega) hx (meets_E (.inl ⟨hc, by rw [h3]; simp⟩))
        rw [e1]
      · rw [hE2 hc, hH]
        unfold heapAt
        have e1 : lastE P Γ ops.toList (fun k => (listed.setIfInBounds i true).getD k false) ops.size = lastE P Γ ops.toList (fun k => listed.getD k false) ops.size := by
          refine lastE_congr fun j _ h3 => ?_
          rw [hlistget, if_neg]
          rintro rfl
          simp only [hol, Option.map_some, Option.some.injEq] at h3
          exact hc h3
        rw [e1]
    · obtain ⟨ψ, rfl⟩ := g3.pre
      exact put_rel (tm_mono ψ hrel) g1 o.dst
    · intro φ2 w2 a2 k1 k2 k3 k4
      exact hQ φ2 w2 a2 k1 k2 k3 (g3.trans k4)

/-- A region, whether it asks for its order or not. -/
theorem wp_region_am (hΓ : SpecOK P Γ) (hm : P.follows .mixedOrders = true) {id : Nat} {ops : Array Oper} {draw : Bool} {Q : Exit → Act → World → Prop} {a : Act} {w : World} {φ : Phi} {tm : List TV} {H : AH} {s : ASt}
    (hd : draw = true → orderOk P Γ ops.toList = true) (hc : chain P Γ sy ops.toList ops.toList tm H = some s) (hrep : Rep φ H w.heap) (hrel : All2 (relT φ) tm a.tmps.toList) (hdef : a.defers = [])
    (hQ : ∀ φ' w' a', Rep φ' s.hp w'.heap → All2 (relT φ') s.tm a'.tmps.toList → a'.defers = [] → Ext φ H w φ' s.hp w' → Q .normal a' w') : (Code.region id ops draw).wp P Q a w := by
  cases draw with
  | false =>
    refine wp_region ?_
    have := wpOps_chain (Q := Q) hΓ ops.toList 0 a w φ tm H s (by simp) hc hrep hrel hdef hQ
    rw [List.range_eq_range']
    simpa using this
  | true =>
    refine wp_region_any hm ?_
    obtain ⟨T, Hs, vs, h1, h2, h3, h4, h5⟩ := run_of_chain hc
    have hlen : ops.toList.length = ops.size := by simp
    rw [hlen] at h3 h4
    have hfalse : ∀ k, (Array.replicate ops.size false).getD k false = false := by
      intro k
      by_cases hk : k < ops.size <;> simp [hk]
    refine wpAny_run (sy := sy) hΓ (hd rfl) ⟨h5⟩ ops.size (Array.replicate ops.size false) a { w with drawn := w.drawn + 1 } φ tm H (by simp) ?_ ?_ (by rw [h1]) ?_ ?_ hrep hrel hdef ?_
    · exact Nat.le_trans List.countP_le_length (by simp)
    · intro k o _ hk
      rw [hfalse] at hk; cases hk
    · intro t
      unfold valAt
      have e1 : lastW ops.toList (fun k => (Array.replicate ops.size false).getD k false) t ops.size = none := by
        rw [lastW_skip (i := 0) (by omega) fun j _ _ _ => hfalse j]
        rfl
      rw [e1, h1]
    · unfold heapAt
      have e1 : lastE P Γ ops.toList (fun k => (Array.replicate ops.size false).getD k false) ops.size = none := by
        rw [lastE_skip (i := 0) (by omega) fun j _ _ _ => hfalse j]
        rfl
      rw [e1, h2]
    · intro φ' w' a' g1 g2 g3 g4
      rw [h4] at g1 g4
      rw [h3] at g2
      exact hQ φ' w' a' g1 g2 g3 g4.drew
end
end Go.AM
end

/-
  The abstract machine: a region that asks the tape for its order, where a load may come up behind a store that does not touch what it reads.
-/
section
namespace Go.AM

/-- The block that an address leads to. -/
def addrId : TV → Option Nat
  | .v (.s (.p id _)) => some id
  | .v (.s (.pr id _ _ _)) => some id
  | .v (.s (.px id _ _ _ _ _ _ _)) => some id
  | .v (.s (.mpx id _ _ _ _ _ _ _ _ _)) => some id
  | _ => none

/-- The blocks that a slice leads to. -/
def slIds : TV → List Nat
  | .v (.s (.sl id _ _ _)) => [id]
  | .v (.s (.slr id _ _ _ _)) => [id]
  | .v (.s (.slc id _ _ _)) => [id]
  | .v (.s (.slq id _ _ _)) => [id]
  | .v (.s (.slw id _ _)) => [id]
  | .v (.s (.slk id _ _ _)) => [id]
  | .v (.s (.sld id _ _)) => [id]
  | .v (.s (.slz id _ _ _)) => [id]
  | .v (.s (.mem id _ _ _ _)) => [id]
  | .v (.s (.mems id _ _ _ _ _)) => [id]
  | _ => []

/-- The blocks that an operation may turn. -/
def touchedT (ρ : Operand → TV) (op : Op) : Option (List Nat) :=
  match op with
  | .store _ a x => match addrId (ρ a) with
    | some id => some (id :: slIds (ρ x))
    | none => none
  | .call c => match c.callee, c.args.toList with
    | .builtin .append, [a, _] => some (slIds (ρ a))
    | _, _ => none
  | _ => none

/-- No operation from the 'i'-th on, ahead of the 'k'-th, writes the slot. -/
def noWrite (ops : List Oper) (t : Nat) (i : Nat) : Nat → Bool
  | 0 => true
  | n + 1 => noWrite ops t i n && (match ops[i + n]? with
    | some o => !memb o.dst [t]
    | none => true)

def meets2 (x y : Info) : Bool :=
  memb x.dst y.lks || memb y.dst x.lks || memb x.dst y.dst.toList ||
  (match x.cl, y.cl with
   | .E, .R | .E, .E => true
   | _, _ => false)

def rowOk2 (y : Info) (my : Nat) : (i : Nat) → List Info → Bool
  | _, [] => true
  | i, x :: xs => (!(meets2 x y) || my.testBit i) && rowOk2 y my (i + 1) xs

def rowsOk2 : (before : List Info) → List Info → List Nat → Bool
  | b, y :: ys, m :: ms => rowOk2 y m 0 b && rowsOk2 (b ++ [y]) ys ms
  | _, _, _ => true

def orderOk2 (P : Program) (Γ : Specs) (ops : List Oper) : Bool :=
  edgesOk 0 ops && rowsOk2 [] (ops.map (infoOf P Γ ops)) (masks ops [])

/-- A read ahead of the 'k'-th operation, that does not have to wait for being so: it must not hang on what that one turns. -/
def lateOk1 (P : Program) (Γ : Specs) (ops : List Oper) (m k : Nat) (y : Oper) (tm : List TV) (i : Nat) : Bool :=
  match ops[i]? with
  | none => true
  | some x => match cls P Γ x.op with
    | .R => match m.testBit i with
      | true => true
      | false => match x.op, x.guard with
        | .load _ (.tmp a), none => match addrId (evalT tm (.tmp a)), touchedT (evalT tm) y.op with
          | some id, some l => !(l.contains id) && noWrite ops a i (k - i)
          | _, _ => false
        | _, _ => false
    | _ => true

def allBelow (p : Nat → Bool) : Nat → Bool
  | 0 => true
  | n + 1 => allBelow p n && p n

def lateOkAt (P : Program) (Γ : Specs) (ops : List Oper) (ms : List Nat) (k : Nat) (y : Oper) (tm : List TV) : Bool :=
  match cls P Γ y.op, isAlloc y.op with
  | .E, false => allBelow (lateOk1 P Γ ops (ms.getD k 0) k y tm) k
  | _, _ => true

/-- One operation behind its guard. -/
def headOp (P : Program) (Γ : Specs) (sy : Nat → Option Nat) (ops : List Oper) (o : Oper) (tm : List TV) (H : AH) (k : List TV → AH → Tr ASt) : Tr ASt :=
  match o.guard with
  | none => doOp P Γ sy tm H o k
  | some (j, want) => match guardT ops tm j with
    | some (d, .v (.s (.b c))) => match sy d with
      | some g => .br g c
          (match want with
            | true => doOp P Γ sy (tm.set d (.k true)) H o k
            | false => k (putT (tm.set d (.k true)) o.dst (.tup [])) H)
          (match want with
            | true => k (putT (tm.set d (.k false)) o.dst (.tup [])) H
            | false => doOp P Γ sy (tm.set d (.k false)) H o k)
      | none => match c, want with
        | true, true => doOp P Γ sy tm H o k
        | false, false => doOp P Γ sy tm H o k
        | _, _ => k (putT tm o.dst (.tup [])) H
    | some (_, .k c) => match c, want with
      | true, true => doOp P Γ sy tm H o k
      | false, false => doOp P Γ sy tm H o k
      | _, _ => k (putT tm o.dst (.tup [])) H
    | some (_, .tup []) => k (putT tm o.dst (.tup [])) H
    | _ => .no

def runOpsL (P : Program) (Γ : Specs) (sy : Nat → Option Nat) (ops : List Oper) (ms : List Nat) : (k : Nat) → List Oper → List TV → AH → Tr ASt
  | _, [], tm, H => .ok ⟨tm, H⟩
  | k, o :: rest, tm, H => cond (lateOkAt P Γ ops ms k o tm) (headOp P Γ sy ops o tm H (runOpsL P Γ sy ops ms (k + 1) rest)) .no

def chainL (P : Program) (Γ : Specs) (sy : Nat → Option Nat) (ops : List Oper) (ms : List Nat) : (k : Nat) → List Oper → List TV → AH → Option ASt
  | _, [], tm, H => some ⟨tm, H⟩
  | k, o :: rest, tm, H => cond (lateOkAt P Γ ops ms k o tm) (match semOp P Γ sy ops tm H o with
    | some (v, H') => chainL P Γ sy ops ms (k + 1) rest (putT tm o.dst v) H'
    | none => none) none

section
variable {P : Program} {Γ : Specs} {sy : Nat → Option Nat} {φ : Phi}

theorem headOp_sem {ops : List Oper} {o : Oper} {tm : List TV} {H : AH} {k : List TV → AH → Tr ASt} {s : ASt} (h : (headOp P Γ sy ops o tm H k).val = some s) :
    ∃ v H' tm', semOp P Γ sy ops (tm.map unk) H o = some (v, H') ∧ tm'.map unk = putT (tm.map unk) o.dst v ∧ (k tm' H').val = some s := by
  have doit : ∀ {tm1 : List TV}, tm1.map unk = tm.map unk → (doOp P Γ sy tm1 H o k).val = some s →
      ∃ v H' tm', (step P Γ (sy (o.dst.getD 0)) (evalT (tm.map unk)) H o.op).val = some (v, H') ∧ tm'.map unk = putT (tm.map unk) o.dst v ∧ (k tm' H').val = some s := by
    intro tm1 ht h
    unfold doOp at h
    cases hq : quickT tm1 o.op with
    | some b =>
      simp only [hq] at h
      exact ⟨tvb b, H, _, by rw [← ht, evalT_map]; exact quickT_step hq, by rw [putK_map, ht], h⟩
    | none =>
      simp only [hq] at h
      rw [Tr.val_bind] at h
      cases hs : (step P Γ (sy (o.dst.getD 0)) (evalT tm1) H o.op).val with
      | none => simp [hs] at h
      | some r => exact ⟨r.1, r.2, _, by rw [← ht, evalT_map, hs], by rw [putT_map, ht], by simpa [hs] using h⟩
  have skip : ∀ {tm1 : List TV}, tm1.map unk = tm.map unk → (k (putT tm1 o.dst (.tup [])) H).val = some s → ∃ tm', tm'.map unk = putT (tm.map unk) o.dst (.tup []) ∧ (k tm' H).val = some s :=
    fun ht h => ⟨_, by rw [putT_map, ht], h⟩
  unfold headOp at h
  cases hg : o.guard with
  | none =>
    simp only [hg] at h
    obtain ⟨v, H', tm', h1, h2⟩ := doit rfl h
    exact ⟨v, H', tm', by simp only [semOp, hg, h1], h2⟩
  | some gw =>
    obtain ⟨j, want⟩ := gw
    simp only [hg] at h
    split at h
    · rename_i d c hgt
      have hgm := guardT_map hgt
      obtain ⟨hget, _⟩ := guardT_get hgt
      have hset : ∀ c', c = c' → (tm.set d (.k c')).map unk = tm.map unk := fun c' e => by subst e; exact set_map hget
      split at h
      · cases c
        · simp only [Tr.val] at h
          cases want
          · obtain ⟨v, H', tm', h1, h2⟩ := doit (hset _ rfl) h
            exact ⟨v, H', tm', by simp only [semOp, hg, hgm, unk, if_true, h1], h2⟩
          · obtain ⟨tm', h1, h2⟩ := skip (hset _ rfl) h
            exact ⟨.tup [], H, tm', by simp [semOp, hg, hgm, unk], h1, h2⟩
        · simp only [Tr.val] at h
          cases want
          · obtain ⟨tm', h1, h2⟩ := skip (hset _ rfl) h
            exact ⟨.tup [], H, tm', by simp [semOp, hg, hgm, unk], h1, h2⟩
          · obtain ⟨v, H', tm', h1, h2⟩ := doit (hset _ rfl) h
            exact ⟨v, H', tm', by simp only [semOp, hg, hgm, unk, if_true, h1], h2⟩
      · cases c <;> cases want <;> simp only at h
        · obtain ⟨v, H', tm', h1, h2⟩ := doit rfl h
          exact ⟨v, H', tm', by simp only [semOp, hg, hgm, unk, if_true, h1], h2⟩
        · obtain ⟨tm', h1, h2⟩ := skip rfl h
          exact ⟨.tup [], H, tm', by simp [semOp, hg, hgm, unk], h1, h2⟩
        · obtain ⟨tm', h1, h2⟩ := skip rfl h
          exact ⟨.tup [], H, tm', by simp [semOp, hg, hgm, unk], h1, h2⟩
        · obtain ⟨v, H', tm', h1, h2⟩ := doit rfl h
          exact ⟨v, H', tm', by simp only [semOp, hg, hgm, unk, if_true, h1], h2⟩
    · rename_i d c hgt
      have hgm := guardT_map hgt
      cases c <;> cases want <;> simp only at h
      · obtain ⟨v, H', tm', h1, h2⟩ := doit rfl h
        exact ⟨v, H', tm', by simp only [semOp, hg, hgm, unk, if_true, h1], h2⟩
      · obtain ⟨tm', h1, h2⟩ := skip rfl h
        exact ⟨.tup [], H, tm', by simp [semOp, hg, hgm, unk], h1, h2⟩
      · obtain ⟨tm', h1, h2⟩ := skip rfl h
        exact ⟨.tup [], H, tm', by simp [semOp, hg, hgm, unk], h1, h2⟩
      · obtain ⟨v, H', tm', h1, h2⟩ := doit rfl h
        exact ⟨v, H', tm', by simp only [semOp, hg, hgm, unk, if_true, h1], h2⟩
    · rename_i d hgt
      have hgm := guardT_map hgt
      obtain ⟨tm', h1, h2⟩ := skip rfl h
      exact ⟨.tup [], H, tm', by simp only [semOp, hg, hgm, unk], h1, h2⟩
    · simp [Tr.val] at h

theorem lateOkAt_map {ops : List Oper} {ms : List Nat} {k : Nat} {o : Oper} {tm : List TV} : lateOkAt P Γ ops ms k o (tm.map unk) = lateOkAt P Γ ops ms k o tm := by
  have e : lateOk1 P Γ ops (ms.getD k 0) k o (tm.map unk) = lateOk1 P Γ ops (ms.getD k 0) k o tm := by
    funext i
    unfold lateOk1
    rw [evalT_map]
  unfold lateOkAt
  rw [e]

theorem runOpsL_chain {ops : List Oper} {ms : List Nat} : ∀ {l : List Oper} {k : Nat} {tm : List TV} {H : AH} {s : ASt}, (runOpsL P Γ sy ops ms k l tm H).val = some s → chainL P Γ sy ops ms k l (tm.map unk) H = some ⟨s.tm.map unk, s.hp⟩
  | [], k, tm, H, s, h => by rw [runOpsL] at h; have := val_ok h; subst this; rfl
  | o :: rest, k, tm, H, s, h => by
    rw [runOpsL] at h
    rw [chainL, lateOkAt_map]
    cases hl : lateOkAt P Γ ops ms k o tm with
    | false => rw [hl] at h; simp [Tr.val] at h
    | true =>
      rw [hl] at h
      obtain ⟨v, H', tm', h1, h2, h3⟩ := headOp_sem h
      rw [h1]
      have := runOpsL_chain h3
      rw [h2] at this
      exact this

theorem run_of_chainL {all : List Oper} {ms : List Nat} : ∀ {l : List Oper} {n : Nat} {tm : List TV} {H : AH} {s : ASt}, chainL P Γ sy all ms n l tm H = some s →
    ∃ (T : Nat → List TV) (Hs : Nat → AH) (vs : Nat → TV), T 0 = tm ∧ Hs 0 = H ∧ T l.length = s.tm ∧ Hs l.length = s.hp ∧
      ∀ (k : Nat) (o : Oper), l[k]? = some o → lateOkAt P Γ all ms (n + k) o (T k) = true ∧ semOp P Γ sy all (T k) (Hs k) o = some (vs k, Hs (k + 1)) ∧ T (k + 1) = putT (T k) o.dst (vs k)
  | [], n, tm, H, s, h => by
    simp only [chainL, Option.some.injEq] at h
    subst h
    exact ⟨fun _ => tm, fun _ => H, fun _ => .any, rfl, rfl, rfl, rfl, fun k o h => by simp at h⟩
  | o :: l, n, tm, H, s, h => by
    rw [chainL] at h
    cases hl : lateOkAt P Γ all ms n o tm with
    | false => rw [hl] at h; cases h
    | true =>
      rw [hl] at h
      simp only [cond_true] at h
      split at h
      · rename_i v H' hs
        obtain ⟨T, Hs, vs, h1, h2, h3, h4, h5⟩ := run_of_chainL h
        refine ⟨fun | 0 => tm | k + 1 => T k, fun | 0 => H | k + 1 => Hs k, fun | 0 => v | k + 1 => vs k, rfl, rfl, h3, h4, ?_⟩
        intro k o' hk
        cases k with
        | zero =>
          simp at hk
          subst hk
          exact ⟨hl, by simpa [h2] using hs, h1⟩
        | succ k =>
          simp at hk
          have := h5 k o' hk
          rw [show n + 1 + k = n + (k + 1) by omega] at this
          exact this
      · cases h

theorem rowOk2_spec {y : Info} {my : Nat} : ∀ {xs : List Info} {i : Nat}, rowOk2 y my i xs = true → ∀ (j : Nat) (x : Info), xs[j]? = some x → meets2 x y = true → my.testBit (i + j) = true
  | [], i, _, j, x, hx, _ => by simp at hx
  | z :: xs, i, h, 0, x, hx, hm => by
    simp at hx
    subst hx
    simp only [rowOk2, Bool.and_eq_true, Bool.or_eq_true, Bool.not_eq_true'] at h
    rcases h.1 with h' | h'
    · rw [hm] at h'; cases h'
    · exact h'
  | z :: xs, i, h, j + 1, x, hx, hm => by
    simp at hx
    simp only [rowOk2, Bool.and_eq_true] at h
    have := rowOk2_spec h.2 j x hx hm
    rwa [show i + (j + 1) = i + 1 + j by omega]

theorem rowsOk2_spec : ∀ {ys : List Info} {ms : List Nat} {b : List Info}, rowsOk2 b ys ms = true → ys.length = ms.length → ∀ (j i : Nat) (x y : Info) (m : Nat), i < b.length + j → (b ++ ys)[i]? = some x → ys[j]? = some y → ms[j]? = some m →
    meets2 x y = true → m.testBit i = true
  | [], ms, b, _, _, j, i, x, y, m, _, _, hy, _, _ => by simp at hy
  | z :: ys, [], b, _, hl, _, _, _, _, _, _, _, _, _, _ => by simp at hl
  | z :: ys, m0 :: ms, b, h, hl, 0, i, x, y, m, hi, hx, hy, hm, hmt => by
    simp at hy hm
    subst hy; subst hm
    simp only [rowsOk2, Bool.and_eq_true] at h
    have hx' : b[i]? = some x := by rw [List.getElem?_append_left (by omega)] at hx; exact hx
    have := rowOk2_spec h.1 i x hx' hmt
    simpa using this
  | z :: ys, m0 :: ms, b, h, hl, j + 1, i, x, y, m, hi, hx, hy, hm, hmt => by
    simp at hy hm
    simp only [rowsOk2, Bool.and_eq_true] at h
    exact rowsOk2_spec h.2 (by simpa using hl) j i x y m (by simp; omega) (by simpa using hx) hy hm hmt

theorem waits_of_meets2 {ops : List Oper} (h : orderOk2 P Γ ops = true) {i j : Nat} {x y : Oper} (hij : i < j) (hx : ops[i]? = some x) (hy : ops[j]? = some y) (hm : meets2 (infoOf P Γ ops x) (infoOf P Γ ops y) = true) :
    ∃ m, (masks ops [])[j]? = some m ∧ m.testBit i = true := by
  simp only [orderOk2, Bool.and_eq_true] at h
  have hg := masks_get ops [] j y hy
  simp only [List.length_nil, Nat.zero_add] at hg
  refine ⟨_, hg, ?_⟩
  obtain ⟨r, h1, h2⟩ := masks_append ops []
  exact rowsOk2_spec h.2 (by rw [h1]; simp [h2]) j i _ _ _ (by simpa using hij) (by simp [hx]) (by simp [hy]) hg hm

/-- What is waited for, at some removes, has come up. -/
theorem closed_maskE {ops : List Oper} (hE : edgesOk 0 ops = true) {S : Nat → Bool} (hS : ∀ (k : Nat) (o : Oper), ops[k]? = some o → S k = true → ∀ e ∈ o.after.toList, Region.binds .any e = true → S e.on = true) :
    ∀ (k : Nat) (o : Oper) (m j : Nat), ops[k]? = some o → (∀ e ∈ o.after.toList, Region.binds .any e = true → S e.on = true) → (masks ops [])[k]? = some m → m.testBit j = true → S j = true := by
  intro k
  induction k using Nat.strongRecOn with
  | _ k ih =>
    intro o m j ho hS0 hm hj
    have hg := masks_get ops [] k o ho
    simp only [List.length_nil, Nat.zero_add] at hg
    rw [hm] at hg
    cases hg
    obtain ⟨e, he, hb, hej⟩ := maskOf_spec hj
    rcases hej with rfl | hej
    · exact hS0 e he hb
    · have hlt := edgesOk_spec hE k o ho e he hb
      simp only [Nat.zero_add] at hlt
      have hSe := hS0 e he hb
      cases hoe : ops[e.on]? with
      | none =>
        have : ops.length ≤ e.on := List.getElem?_eq_none_iff.1 hoe
        have : k < ops.length := by
          rcases Nat.lt_or_ge k ops.length with h' | h'
          · exact h'
          · simp [List.getElem?_eq_none h'] at ho
        omega
      | some oe =>
        have hme := masks_get ops [] e.on oe hoe
        simp only [List.length_nil, Nat.zero_add] at hme
        refine ih e.on hlt oe _ j hoe (hS e.on oe hoe hSe) hme ?_
        rw [List.getD_eq_getElem?_getD, List.getElem?_take, if_pos hlt, hme] at hej
        exact hej

/-! ### what an operation does not touch -/

theorem loadS_blk {H H' : AH} {t : TypeId} {a : TV} {id : Nat} (ha : addrId a = some id) (hb : blk H id = blk H' id) : loadS P H t a = loadS P H' t a := by
  have hc : blkC H id = blkC H' id := by unfold blkC; rw [hb]
  unfold addrId at ha
  split at ha <;> cases ha <;> simp only [loadS, loadN, loadO, loadT, loadX, hb, hc]

/-- Where 'j' stands, nothing was turned. -/
def Keeps (H H' : AH) (j : Nat) : Prop := blk H' j = blk H j

theorem keeps_set {H : AH} {id j : Nat} {B : Option Blk} (h : j ≠ id) : Keeps H (H.set id B) j := by
  unfold Keeps blk
  rw [List.getElem?_set_ne (fun e => h e.symm)]
theorem keeps_app {H H1 : AH} {j : Nat} (B : Option Blk) (hj : j < H.length) (hl : H.length ≤ H1.length) (h : Keeps H H1 j) : Keeps H (H1 ++ [B]) j := by
  unfold Keeps blk at *
  rw [List.getElem?_append_left (by omega)]
  exact h
theorem keeps_apps {H H1 : AH} {j : Nat} (Bs : AH) (hj : j < H.length) (hl : H.length ≤ H1.length) (h : Keeps H H1 j) : Keeps H (H1 ++ Bs) j := by
  unfold Keeps blk at *
  rw [List.getElem?_append_left (by omega)]
  exact h
theorem keeps_refl {H : AH} {j : Nat} : Keeps H H j := rfl
theorem Keeps.trans {H H1 H2 : AH} {j : Nat} (h : Keeps H H1 j) (k : Keeps H1 H2 j) : Keeps H H2 j := Eq.trans k h

theorem chk_val {α : Type} {y : Option Nat} {c : Bool} {t : Tr α} {a : α} (h : (chk y c t).val = some a) : t.val = some a := (val_chk h).2

theorem putN_keeps {H H' : AH} {id : Nat} {ks : List SK} {c0 : Nat} {ms : List SK} {n : Nat} {g h : Nat → Nat → Int} {ow : Ow} {i : Nat} {a : AS} {j : Nat} (hv : (putN H id ks c0 ms n g h ow i a).val = some H') (hj : j < H.length) (h1 : j ≠ id) (h2 : j ∉ slIds (.v (.s a))) : Keeps H H' j := by
  unfold putN at hv
  split at hv
  · cases hc : (owPut ow i).1 <;> simp only [hc, Tr.val] at hv
    · cases hv
    · cases hv
      exact keeps_app _ hj (by simp) (keeps_set h1)
  · rename_i N wd m
    have hN : j ≠ N := fun e => h2 (by simp [slIds, e])
    split at hv
    · split at hv
      · split at hv
        · cases hc : (owPut ow i).1 <;> simp only [hc, Tr.val] at hv
          · cases hv
          · cases hv
            exact keeps_app _ hj (by simp) ((keeps_set hN).trans (keeps_set h1))
        · simp [Tr.val] at hv
      · simp [Tr.val] at hv
    · simp [Tr.val] at hv
  · simp [Tr.val] at hv

theorem storeS_keeps {H H' : AH} {t : TypeId} {a v : TV} {id j : Nat} (ha : addrId a = some id) (hv : (storeS P H t a v).val = some H') (hj : j < H.length) (h1 : j ≠ id) (h2 : j ∉ slIds v) : Keeps H H' j := by
  have fin : ∀ {B : Option Blk}, H' = H.set id B → Keeps H H' j := fun e => by rw [e]; exact keeps_set h1
  unfold addrId at ha
  split at ha <;> cases ha
  · simp only [storeS, storeN, storeO, storeT] at hv
    repeat' split at hv
    all_goals first
      | (simp [Tr.val] at hv; done)
      | (rw [forceL_eq] at hv; have := val_ok hv; exact fin (by rw [this]))
      | skip
  · unfold storeS at hv
    split at hv
    · rename_i r hr
      simp only [storeN] at hr
      split at hr
      · cases hr
        repeat' split at hv
        all_goals first
          | (simp [Tr.val] at hv; done)
          | (have := val_ok hv; exact fin (by rw [this]))
          | (rw [forceL_eq] at hv; have := val_ok hv; exact fin (by rw [this]))
          | exact putN_keeps hv hj h1 h2
      · cases hr
    · simp only [storeO, storeT] at hv
      repeat' split at hv
      all_goals first
        | (simp [Tr.val] at hv; done)
        | (have := val_ok hv; exact fin (by rw [this]))
        | (rw [forceL_eq] at hv; have := val_ok hv; exact fin (by rw [this]))
        | exact putN_keeps hv hj h1 h2
  · unfold storeS at hv
    split at hv
    · rename_i r hr
      simp only [storeN] at hr
      split at hr
      · cases hr
        repeat' split at hv
        all_goals first
          | (simp [Tr.val] at hv; done)
          | (have := val_ok hv; exact fin (by rw [this]))
          | (rw [forceL_eq] at hv; have := val_ok hv; exact fin (by rw [this]))
          | exact putN_keeps hv hj h1 h2
      · cases hr
    · simp only [storeO, storeX] at hv
      repeat' split at hv
      all_goals first
        | (simp [Tr.val] at hv; done)
        | (have := val_ok hv; exact fin (by rw [this]))
        | (rw [forceL_eq] at hv; have := val_ok hv; exact fin (by rw [this]))
        | exact putN_keeps hv hj h1 h2
  · simp only [storeS, storeN] at hv
    repeat' split at hv
    all_goals first
      | (simp [Tr.val] at hv; done)
      | (have := val_ok hv; exact fin (by rw [this]))
      | (rw [forceL_eq] at hv; have := val_ok hv; exact fin (by rw [this]))
      | exact putN_keeps hv hj h1 h2

theorem toSlw_heap (r : TV × AH) : (toSlw r).2 = r.2 := by
  unfold toSlw
  split <;> rfl

theorem appendT_keeps {H H' : AH} {y : Option Nat} {sT xT : TypeId} {s x v : TV} {j : Nat} (hv : (appendT P y H sT xT s x).val = some (v, H')) (hj : j < H.length) (h : j ∉ slIds s) : Keeps H H' j := by
  unfold appendT at hv
  repeat' split at hv
  all_goals first
    | (simp [Tr.val] at hv; done)
    | (have e := val_ok (chk_val hv); simp only [Prod.mk.injEq] at e; rw [← e.2]; exact keeps_app _ hj (Nat.le_refl _) keeps_refl)
    | (have e := val_ok (chk_val hv); simp only [Prod.mk.injEq] at e; rw [← e.2]; exact keeps_app _ hj (by simp) (keeps_set fun e => h (by simp [slIds, e])))
    | (have e := val_ok (val_chkB hv).2; simp only [Prod.mk.injEq] at e; rw [← e.2]; exact keeps_app _ hj (by simp) (keeps_set fun e => h (by simp [slIds, e])))

theorem inT_keeps {H H' : AH} {y : Option Nat} {sT xT : TypeId} {s x v : TV} {j : Nat} {r : Tr (TV × AH)} (hr : inT P y H sT xT s x = some r) (hv : r.val = some (v, H')) (hj : j < H.length) (h : j ∉ slIds s) : Keeps H H' j := by
  unfold inT at hr
  repeat' split at hr
  all_goals first
    | (cases hr; done)
    | (cases hr; have e := val_ok (chk_val hv); simp only [Prod.mk.injEq] at e; rw [← e.2]; exact keeps_app _ hj (by simp) (keeps_set fun e => h (by simp [slIds, e])))

theorem appendS_keeps {H H' : AH} {y : Option Nat} {sT xT : TypeId} {s x v : TV} {j : Nat} (hv : (appendS P y H sT xT s x).val = some (v, H')) (hj : j < H.length) (h : j ∉ slIds s) : Keeps H H' j := by
  unfold appendS at hv
  split at hv
  · repeat' split at hv
    all_goals first
      | (simp [Tr.val] at hv; done)
      | (have e := val_ok (chk_val hv); simp only [Prod.mk.injEq] at e; rw [← e.2]; exact keeps_app _ hj (by simp) (keeps_app _ hj (Nat.le_refl _) keeps_refl))
  · repeat' split at hv
    all_goals first
      | (simp [Tr.val] at hv; done)
      | (have e := val_ok (chk_val hv); simp only [Prod.mk.injEq] at e; rw [← e.2]; exact keeps_app _ hj (by simp) (keeps_app _ hj (Nat.le_refl _) keeps_refl))
  · repeat' split at hv
    all_goals first
      | (simp [Tr.val] at hv; done)
      | (have e := val_ok (chk_val hv); simp only [Prod.mk.injEq] at e; rw [← e.2]; exact keeps_app _ hj (by simp) (keeps_set fun e => h (by simp [slIds, e])))
      | (have e := val_ok (val_chkB hv).2; simp only [Prod.mk.injEq] at e; rw [← e.2]; exact keeps_app _ hj (by simp) (keeps_set fun e => h (by simp [slIds, e])))
  · split at hv
    · rename_i r hr
      exact inT_keeps hr hv hj h
    · rw [Tr.val_bind] at hv
      cases ha : (appendT P y H sT xT s x).val with
      | none => simp [ha] at hv
      | some q =>
        simp only [ha, Option.bind_some] at hv
        have e := val_ok hv
        have e2 : (toSlw q).2 = H' := by rw [e]
        rw [toSlw_heap] at e2
        obtain ⟨q1, q2⟩ := q
        simp only at e2
        subst e2
        exact appendT_keeps ha hj h

theorem appendA_keeps {H H' : AH} {y : Option Nat} {sT xT : TypeId} {s x v : TV} {j : Nat} (hv : (appendA P y H sT xT s x).val = some (v, H')) (hj : j < H.length) (h : j ∉ slIds s) : Keeps H H' j := by
  unfold appendA at hv
  split at hv
  · rename_i id F wd i len
    have hid : j ≠ id := fun e => h (by simp [slIds, e])
    unfold appendM at hv
    repeat' split at hv
    all_goals first
      | (simp [Tr.val] at hv; done)
      | exact Keeps.trans (keeps_app _ hj (by simp) (keeps_set hid)) (appendS_keeps hv (by simp; omega) (by simp [slIds]; omega))
  · split at hv
    · unfold appendNN at hv
      repeat' split at hv
      all_goals first
        | (simp [Tr.val] at hv; done)
        | (have e := val_ok (chk_val hv); simp only [Prod.mk.injEq] at e; rw [← e.2]; exact keeps_apps _ hj (Nat.le_refl _) keeps_refl)
    · exact appendS_keeps hv hj h
  · split at hv
    · unfold appendNN at hv
      repeat' split at hv
      all_goals first
        | (simp [Tr.val] at hv; done)
        | (have e := val_ok (chk_val hv); simp only [Prod.mk.injEq] at e; rw [← e.2]; exact keeps_apps _ hj (Nat.le_refl _) keeps_refl)
    · exact appendS_keeps hv hj h
  · exact appendS_keeps hv hj h

theorem touched_keeps {H H' : AH} {y : Option Nat} {ρ : Operand → TV} {op : Op} {v : TV} {l : List Nat} {j : Nat} (hv : (stepE P Γ y ρ H op).val = some (v, H')) (ht : touchedT ρ op = some l) (hj : j < H.length) (h : j ∉ l) : Keeps H H' j := by
  unfold touchedT at ht
  split at ht
  · rename_i t a x
    split at ht
    · rename_i id hid
      cases ht
      simp only [stepE, Tr.val_bind] at hv
      cases hs : (storeS P H t (ρ a) (ρ x)).val with
      | none => simp [hs] at hv
      | some H1 =>
        simp only [hs, Option.bind_some] at hv
        have e := val_ok hv
        simp only [Prod.mk.injEq] at e
        rw [← e.2]
        simp only [List.mem_cons, not_or] at h
        exact storeS_keeps hid hs hj h.1 h.2
    · cases ht
  · rename_i c
    split at ht
    · rename_i a b hc ha
      cases ht
      simp only [stepE, hc] at hv
      rw [ha] at hv
      split at hv
      · rename_i sT xT a' b' h1 h2
        cases h2
        exact appendA_keeps hv hj h
      · simp [Tr.val] at hv
    · cases ht
  · cases ht

theorem semOp_touched {ops : List Oper} {tm : List TV} {H H' : AH} {o : Oper} {v : TV} {l : List Nat} {j : Nat} (hv : semOp P Γ sy ops tm H o = some (v, H')) (hc : cls P Γ o.op = .E) (ht : touchedT (evalT tm) o.op = some l) (hj : j < H.length) (h : j ∉ l) : Keeps H H' j := by
  have key : (step P Γ (sy (o.dst.getD 0)) (evalT tm) H o.op).val = some (v, H') → Keeps H H' j := by
    intro hs
    unfold step at hs
    rw [hc] at hs
    exact touched_keeps hs ht hj h
  unfold semOp at hv
  split at hv
  · exact key hv
  · split at hv
    · split at hv
      · exact key hv
      · simp only [Option.some.injEq, Prod.mk.injEq] at hv; rw [← hv.2]; exact keeps_refl
    · simp only [Option.some.injEq, Prod.mk.injEq] at hv; rw [← hv.2]; exact keeps_refl
    · cases hv

/-- A load from a block that stands as it stood. -/
theorem semOp_load {ops : List Oper} {tm : List TV} {H H1 H0 : AH} {o : Oper} {v : TV} {t : TypeId} {a : Nat} {id : Nat} (hv : semOp P Γ sy ops tm H0 o = some (v, H1)) (ho : o.op = .load t (.tmp a)) (hg : o.guard = none) (ha : addrId (evalT tm (.tmp a)) = some id) (hb : blk H id = blk H0 id) :
    semOp P Γ sy ops tm H o = some (v, H) := by
  simp only [semOp, hg, step, ho, cls, stepR, Tr.val_bind] at hv ⊢
  rw [loadS_blk ha hb]
  cases hs : (loadS P H0 t (evalT tm (.tmp a))).val with
  | none => simp [hs] at hv
  | some u =>
    simp only [hs, Option.bind_some] at hv ⊢
    have e := val_ok hv
    simp only [Prod.mk.injEq] at e
    rw [← e.1]
    rfl

theorem meets2_dst_look {ops : List Oper} {x y : Oper} {t : Nat} (hx : x.dst = some t) (hy : t ∈ looks ops y) : meets2 (infoOf P Γ ops x) (infoOf P Γ ops y) = true := by
  simp only [meets2, infoOf, memb, hx, Bool.or_eq_true]
  exact .inl (.inl (.inl (by simpa using hy)))

theorem meets2_look_dst {ops : List Oper} {x y : Oper} {t : Nat} (hy : y.dst = some t) (hx : t ∈ looks ops x) : meets2 (infoOf P Γ ops x) (infoOf P Γ ops y) = true := by
  simp only [meets2, infoOf, memb, hy, Bool.or_eq_true]
  exact .inl (.inl (.inr (by simpa using hx)))

theorem meets2_dst_dst {ops : List Oper} {x y : Oper} {t : Nat} (hx : x.dst = some t) (hy : y.dst = some t) : meets2 (infoOf P Γ ops x) (infoOf P Γ ops y) = true := by
  simp only [meets2, infoOf, memb, hx, hy, Bool.or_eq_true]
  exact .inl (.inr (by simp))

theorem meets2_E {ops : List Oper} {x y : Oper} (h : cls P Γ x.op = .E ∧ cls P Γ y.op ≠ .N) : meets2 (infoOf P Γ ops x) (infoOf P Γ ops y) = true := by
  simp only [meets2, infoOf, Bool.or_eq_true]
  right
  obtain ⟨h1, h2⟩ := h
  rw [h1]; rcases cl_eq (cls P Γ y.op) with e | e | e <;> rw [e] at h2 ⊢; exact (h2 rfl).elim

theorem allBelow_spec {p : Nat → Bool} : ∀ {n : Nat}, allBelow p n = true → ∀ i, i < n → p i = true
  | 0, _, i, hi => absurd hi (Nat.not_lt_zero i)
  | n + 1, h, i, hi => by
    simp only [allBelow, Bool.and_eq_true] at h
    by_cases e : i = n
    · rw [e]; exact h.2
    · exact allBelow_spec h.1 i (by omega)

theorem noWrite_run {ops : List Oper} {T : Nat → List TV} {Hs : Nat → AH} {vs : Nat → TV} (hr : Run P Γ sy ops T Hs vs) {a i : Nat} : ∀ (d : Nat), i + d ≤ ops.length → noWrite ops a i d = true → (T (i + d))[a]? = (T i)[a]?
  | 0, _, _ => rfl
  | d + 1, hle, h => by
    simp only [noWrite, Bool.and_eq_true] at h
    have ih := noWrite_run hr d (by omega) h.1
    have hx : ops[i + d]? = some (ops[i + d]'(by omega)) := List.getElem?_eq_getElem (by omega)
    rw [hx] at h
    rw [show i + (d + 1) = i + d + 1 by omega, (hr.step (i + d) _ hx).2, putT_get]
    have hn := h.2
    rw [if_neg]
    · exact ih
    · intro e
      simp [memb, e] at hn

theorem loadS_some {H : AH} {t : TypeId} {a v : TV} {id : Nat} (ha : addrId a = some id) (hv : (loadS P H t a).val = some v) : ∃ b, blk H id = some b := by
  cases hb : blk H id with
  | some b => exact ⟨b, rfl⟩
  | none =>
    exfalso
    have hc : blkC H id = none := by unfold blkC; rw [hb]
    unfold addrId at ha
    split at ha <;> cases ha <;> simp [loadS, loadN, loadO, loadT, loadX, hb, hc, Tr.val] at hv

theorem semOp_loads {ops : List Oper} {tm : List TV} {H1 H0 : AH} {o : Oper} {v : TV} {t : TypeId} {a : Nat} {id : Nat} (hv : semOp P Γ sy ops tm H0 o = some (v, H1)) (ho : o.op = .load t (.tmp a)) (hg : o.guard = none) (ha : addrId (evalT tm (.tmp a)) = some id) : ∃ b, blk H0 id = some b := by
  simp only [semOp, hg, step, ho, cls, stepR, Tr.val_bind] at hv
  cases hs : (loadS P H0 t (evalT tm (.tmp a))).val with
  | none => simp [hs] at hv
  | some u => exact loadS_some ha hs

theorem wpAny_run2 (hΓ : SpecOK P Γ) {ops : Array Oper} {Q : Exit → Act → World → Prop} (hok : orderOk2 P Γ ops.toList = true) {T : Nat → List TV} {Hs : Nat → AH} {vs : Nat → TV} (hr : Run P Γ sy ops.toList T Hs vs) (hlate : ∀ (k : Nat) (o : Oper), ops.toList[k]? = some o → lateOkAt P Γ ops.toList (masks ops.toList []) k o (T k) = true) :
    ∀ (fuel : Nat) (listed : Array Bool) (a : Act) (w : World) (φ : Phi) (tm : List TV) (H : AH),
      listed.size = ops.size → listed.toList.countP (· == false) ≤ fuel →
      (∀ (k : Nat) (o : Oper), ops.toList[k]? = some o → listed.getD k false = true → ∀ e ∈ o.after.toList, Region.binds .any e = true → listed.getD e.on false = true) →
      tm.length = (T 0).length → (∀ t, tm[t]? = valAt ops.toList vs (T 0) (fun k => listed.getD k false) ops.size t) → H = heapAt P Γ ops.toList Hs (fun k => listed.getD k false) ops.size →
      Rep φ H w.heap → All2 (relT φ) tm a.tmps.toList → a.defers = [] →
      (∀ φ' w' a', Rep φ' (Hs ops.size) w'.heap → All2 (relT φ') (T ops.size) a'.tmps.toList → a'.defers = [] → Ext φ H w φ' (Hs ops.size) w' → Q .normal a' w') →
      wpAny P .any ops Q fuel listed a w := by
  have hE := (by simpa only [orderOk2, Bool.and_eq_true] using hok : edgesOk 0 ops.toList = true ∧ _).1
  -- when nothing may come up, all have
  have alldone : ∀ (listed : Array Bool), listed.size = ops.size → Region.ready .any ops listed = [] → ∀ k, k < ops.size → listed.getD k false = true := by
    intro listed hsz hnone k
    induction k using Nat.strongRecOn with
    | _ k ih =>
      intro hk
      cases hl : listed.getD k false with
      | true => rfl
      | false =>
        exfalso
        have hmem : k ∈ Region.ready .any ops listed := by
          refine mem_ready.2 ⟨?_, ops[k], Array.getElem?_eq_getElem hk, ?_⟩
          · simp [hsz, hk] at hl ⊢; exact hl
          · intro e he hb
            have hlt := edgesOk_spec hE k ops[k] (by simp [hk]) e (by simpa using he) hb
            exact ih e.on (by omega) (by omega)
        rw [hnone] at hmem
        cases hmem
  have fin : ∀ (listed : Array Bool) (a : Act) (w : World) (φ : Phi) (tm : List TV) (H : AH), listed.size = ops.size → Region.ready .any ops listed = [] →
      tm.length = (T 0).length → (∀ t, tm[t]? = valAt ops.toList vs (T 0) (fun k => listed.getD k false) ops.size t) → H = heapAt P Γ ops.toList Hs (fun k => listed.getD k false) ops.size →
      Rep φ H w.heap → All2 (relT φ) tm a.tmps.toList → a.defers = [] →
      (∀ φ' w' a', Rep φ' (Hs ops.size) w'.heap → All2 (relT φ') (T ops.size) a'.tmps.toList → a'.defers = [] → Ext φ H w φ' (Hs ops.size) w' → Q .normal a' w') → Q .normal a w := by
    intro listed a w φ tm H hsz hnone hlen htm hH hrep hrel hd hQ
    have hall := alldone listed hsz hnone
    have e1 : tm = T ops.size := by
      apply List.ext_getElem?
      intro t
      rw [htm t, hr.val ops.size (by simp) t]
      unfold valAt
      rw [lastW_congr fun j hj _ => hall j hj]
    have e2 : H = Hs ops.size := by
      rw [hH, hr.heap ops.size (by simp)]
      unfold heapAt
      rw [lastE_congr fun j hj _ => hall j hj]
    subst e1; subst e2
    exact hQ φ w a hrep hrel hd (Ext.refl _ _ _)
  intro fuel
  induction fuel with
  | zero =>
    intro listed a w φ tm H hsz hcnt hcl hlen htm hH hrep hrel hd hQ
    have hnone : Region.ready .any ops listed = [] := by
      cases hrd : Region.ready .any ops listed with
      | nil => rfl
      | cons i rest =>
        exfalso
        have hi : i ∈ Region.ready .any ops listed := by rw [hrd]; simp
        obtain ⟨hun, oi, hoi, _⟩ := mem_ready.1 hi
        have hlt : i < listed.size := by
          rcases Nat.lt_or_ge i listed.size with h' | h'
          · exact h'
          · simp [Array.getElem?_eq_none h'] at hun
        have hpos : 0 < listed.toList.countP (· == false) := by
          refine List.countP_pos_iff.2 ⟨listed[i], by simp, ?_⟩
          simp [hlt] at hun ⊢; exact hun
        omega
    exact ⟨hnone, fin listed a w φ tm H hsz hnone hlen htm hH hrep hrel hd hQ⟩
  | succ fuel ih =>
    intro listed a w φ tm H hsz hcnt hcl hlen htm hH hrep hrel hd hQ
    refine ⟨fun hnone => fin listed a w φ tm H hsz hnone hlen htm hH hrep hrel hd hQ, fun i hi => ?_⟩
    obtain ⟨hun, o, ho, hready⟩ := mem_ready.1 hi
    have hol : ops.toList[i]? = some o := by simpa using ho
    have hin : i < ops.size := by
      rcases Nat.lt_or_ge i ops.size with h' | h'
      · exact h'
      · simp [Array.getElem?_eq_none h'] at ho
    have hil : i < listed.size := by omega
    have hiS : listed.getD i false = false := by simp [hil] at hun ⊢; exact hun
    have hready' : ∀ e ∈ o.after.toList, Region.binds .any e = true → listed.getD e.on false = true := fun e he hb => hready e (by simpa using he) hb
    -- what meets 'i' and stands before it has come up; what meets it and stands behind it has not
    have before : ∀ (j : Nat) (x : Oper), j < i → ops.toList[j]? = some x → meets2 (infoOf P Γ ops.toList x) (infoOf P Γ ops.toList o) = true → listed.getD j false = true := by
      intro j x hj hx hm
      obtain ⟨m, h1, h2⟩ := waits_of_meets2 hok hj hx hol hm
      exact closed_maskE hE (S := fun k => listed.getD k false) hcl i o m j hol hready' h1 h2
    have behind : ∀ (j : Nat) (x : Oper), i < j → ops.toList[j]? = some x → meets2 (infoOf P Γ ops.toList o) (infoOf P Γ ops.toList x) = true → listed.getD j false = false := by
      intro j x hj hx hm
      cases hl : listed.getD j false with
      | false => rfl
      | true =>
        obtain ⟨m, h1, h2⟩ := waits_of_meets2 hok hj hol hx hm
        have := closed_maskE hE (S := fun k => listed.getD k false) hcl j x m i hx (hcl j x hx hl) h1 h2
        rw [this] at hiS; cases hiS
    -- what 'i' looks at is what it looks at in the order of the text
    have hlook : ∀ t ∈ looks ops.toList o, (T i)[t]? = tm[t]? := by
      intro t ht
      rw [htm t, hr.val i (by simp; omega) t]
      unfold valAt
      have e1 : lastW ops.toList (fun k => listed.getD k false) t ops.size = lastW ops.toList (fun k => listed.getD k false) t i := by
        refine lastW_skip (by omega) fun j h1 h2 h3 => ?_
        cases hx : ops.toList[j]? with
        | none => simp [hx] at h3
        | some x =>
          simp only [hx, Option.bind_some] at h3
          rcases Nat.eq_or_lt_of_le h1 with rfl | hlt
          · exact hiS
          · exact behind j x hlt hx (meets2_look_dst h3 ht)
      have e2 : lastW ops.toList (fun k => listed.getD k false) t i = lastW ops.toList (fun _ => true) t i := by
        refine lastW_congr fun j h1 h3 => ?_
        cases hx : ops.toList[j]? with
        | none => simp [hx] at h3
        | some x =>
          simp only [hx, Option.bind_some] at h3
          exact before j x h1 hx (meets2_dst_look h3 ht)
      rw [e1, e2]
    have hM : ∀ f, MonoS (Γ f) := fun f => by
      rcases hΓ f with h0 | ⟨_, _, hm⟩
      · rw [h0]; trivial
      · exact hm
    have hheap0 : cls P Γ o.op ≠ .N → heapAt P Γ ops.toList Hs (fun k => listed.getD k false) i = Hs i := by
      intro hc
      rw [hr.heap i (by simp; omega)]
      unfold heapAt
      have e2 : lastE P Γ ops.toList (fun k => listed.getD k false) i = lastE P Γ ops.toList (fun _ => true) i := by
        refine lastE_congr fun j h1 h3 => ?_
        cases hx : ops.toList[j]? with
        | none => simp [hx] at h3
        | some x =>
          simp only [hx, Option.map_some, Option.some.injEq] at h3
          exact before j x h1 hx (meets2_E (⟨h3, hc⟩))
      rw [e2]
    -- of the operations behind that have come up, each is an allocation, or does not touch what is read
    have e3 : ∀ (k : Nat) (x : Oper), ops.toList[k]? = some x → listed.getD k false = true → cls P Γ x.op = .E → Hs k = heapAt P Γ ops.toList Hs (fun k => listed.getD k false) k := by
      intro k x hx hl hcx
      have hk : k < ops.size := by
        rcases Nat.lt_or_ge k ops.size with h' | h'
        · exact h'
        · rw [List.getElem?_eq_none (by simpa using h')] at hx; cases hx
      rw [hr.heap k (by simp; omega)]
      unfold heapAt
      rw [lastE_congr fun j h1 h3 => ?_]
      cases hy : ops.toList[j]? with
      | none => simp [hy] at h3
      | some y =>
        simp only [hy, Option.map_some, Option.some.injEq] at h3
        obtain ⟨m, g1, g2⟩ := waits_of_meets2 hok h1 hy hx (meets2_E ⟨h3, by rw [hcx]; simp⟩)
        exact (closed_maskE hE (S := fun k => listed.getD k false) hcl k x m j hx (hcl k x hx hl) g1 g2).symm
    have hlt : ∀ (k : Nat) (x : Oper), i < k → ops.toList[k]? = some x → listed.getD k false = true → cls P Γ x.op = .E → cls P Γ o.op = .R → isAlloc x.op = false →
        ∃ t a id l, o.op = .load t (.tmp a) ∧ o.guard = none ∧ addrId (evalT (T i) (.tmp a)) = some id ∧ touchedT (evalT (T k)) x.op = some l ∧ id ∉ l := by
      intro k x hik hx hl hcx hco hal
      have h1 := hlate k x hx
      unfold lateOkAt at h1
      rw [hcx, hal] at h1
      have h2 := allBelow_spec h1 i hik
      unfold lateOk1 at h2
      simp only [hol, hco] at h2
      have hbit : ((masks ops.toList []).getD k 0).testBit i = false := by
        cases hb : ((masks ops.toList []).getD k 0).testBit i with
        | false => rfl
        | true =>
          exfalso
          cases hm : (masks ops.toList [])[k]? with
          | none => rw [List.getD_eq_getElem?_getD, hm] at hb; simp at hb
          | some m =>
            rw [List.getD_eq_getElem?_getD, hm] at hb
            have := closed_maskE hE (S := fun k => listed.getD k false) hcl k x m i hx (hcl k x hx hl) hm hb
            rw [hiS] at this; cases this
      rw [hbit] at h2
      simp only at h2
      split at h2
      · rename_i t a h3 h4
        split at h2
        · rename_i id l h5 h6
          simp only [Bool.and_eq_true, Bool.not_eq_true', List.contains_eq_mem, decide_eq_false_iff_not] at h2
          refine ⟨t, a, id, l, h3, h4, ?_, h6, h2.1⟩
          have e := noWrite_run hr (k - i) (by
            have : k < ops.toList.length := by
              rcases Nat.lt_or_ge k ops.toList.length with h' | h'
              · exact h'
              · rw [List.getElem?_eq_none h'] at hx; cases hx
            omega) h2.2
          rw [show i + (k - i) = k by omega] at e
          simp only [evalT, List.getD_eq_getElem?_getD, e] at h5 ⊢
          exact h5
        · cases h2
      · cases h2
    have hheapR : cls P Γ o.op = .R → (∃ Bs, H = Hs i ++ Bs) ∨ ∃ t a id, o.op = .load t (.tmp a) ∧ o.guard = none ∧ addrId (evalT (T i) (.tmp a)) = some id ∧ blk H id = blk (Hs i) id := by
      intro hc
      have nx : ∀ d, i + d < ops.size → ∃ x, ops.toList[i + d]? = some x := fun d hk => ⟨ops.toList[i + d]'(by simpa using hk), List.getElem?_eq_getElem (by simpa using hk)⟩
      have e4 : ∀ (d : Nat) (x : Oper), ops.toList[i + d]? = some x → listed.getD (i + d) false = true → cls P Γ x.op = .E → heapAt P Γ ops.toList Hs (fun k => listed.getD k false) (i + (d + 1)) = Hs (i + d + 1) := by
        intro d x hx h1 h2
        unfold heapAt
        rw [show i + (d + 1) = (i + d) + 1 by omega]
        simp only [lastE]
        rw [if_pos ⟨h1, by simp [hx, h2]⟩]
      have e5 : ∀ (d : Nat) (x : Oper), ops.toList[i + d]? = some x → ¬ (listed.getD (i + d) false = true ∧ cls P Γ x.op = .E) → heapAt P Γ ops.toList Hs (fun k => listed.getD k false) (i + (d + 1)) = heapAt P Γ ops.toList Hs (fun k => listed.getD k false) (i + d) := by
        intro d x hx hp
        unfold heapAt
        rw [show i + (d + 1) = (i + d) + 1 by omega]
        simp only [lastE]
        rw [if_neg]
        rintro ⟨h1, h2⟩
        simp only [hx, Option.map_some, Option.some.injEq] at h2
        exact hp ⟨h1, h2⟩
      have dpos : ∀ (d : Nat) (x : Oper), ops.toList[i + d]? = some x → cls P Γ x.op = .E → i < i + d := by
        intro d x hx h2
        rcases Nat.eq_zero_or_pos d with e | e
        · subst e
          rw [Nat.add_zero] at hx
          rw [hol] at hx; cases hx
          rw [hc] at h2; cases h2
        · omega
      by_cases hform : ∃ t a id, o.op = .load t (.tmp a) ∧ o.guard = none ∧ addrId (evalT (T i) (.tmp a)) = some id
      · right
        obtain ⟨t, a, id, f1, f2, f3⟩ := hform
        refine ⟨t, a, id, f1, f2, f3, ?_⟩
        have hsome : ∃ b, blk (Hs i) id = some b := semOp_loads (hr.step i o hol).1 f1 f2 f3
        obtain ⟨b, hb⟩ := hsome
        have len : ∀ G : AH, blk G id = some b → id < G.length := fun G hG => by
          unfold blk at hG
          rcases Nat.lt_or_ge id G.length with h' | h'
          · exact h'
          · simp [List.getElem?_eq_none h'] at hG
        have go : ∀ d, i + d ≤ ops.size → blk (heapAt P Γ ops.toList Hs (fun k => listed.getD k false) (i + d)) id = some b := by
          intro d
          induction d with
          | zero => intro _; rw [Nat.add_zero, hheap0 (by rw [hc]; simp)]; exact hb
          | succ d ihd =>
            intro hle
            have ihd := ihd (by omega)
            obtain ⟨x, hx⟩ := nx d (by omega)
            by_cases hp : listed.getD (i + d) false = true ∧ cls P Γ x.op = .E
            · have hdi := dpos d x hx hp.2
              rw [e4 d x hx hp.1 hp.2]
              rw [← e3 (i + d) x hx hp.1 hp.2] at ihd
              have hlen := len _ ihd
              cases ha : isAlloc x.op with
              | true =>
                obtain ⟨Cs, hCs⟩ := semOp_alloc (hr.step (i + d) x hx).1 ha
                rw [hCs, show blk (Hs (i + d) ++ Cs) id = blk (Hs (i + d)) id from keeps_apps Cs hlen (Nat.le_refl _) keeps_refl]
                exact ihd
              | false =>
                obtain ⟨t', a', id', l, q1, q2, q3, q4, q5⟩ := hlt (i + d) x hdi hx hp.1 hp.2 hc ha
                rw [f1] at q1; cases q1
                rw [f3] at q3; cases q3
                have := semOp_touched (hr.step (i + d) x hx).1 hp.2 q4 hlen q5
                rw [show blk (Hs (i + d + 1)) id = blk (Hs (i + d)) id from this]
                exact ihd
            · rw [e5 d x hx hp]; exact ihd
        have := go (ops.size - i) (by omega)
        rw [show i + (ops.size - i) = ops.size by omega] at this
        rw [hH, this, hb]
      · left
        have go : ∀ d, i + d ≤ ops.size → ∃ Bs, heapAt P Γ ops.toList Hs (fun k => listed.getD k false) (i + d) = Hs i ++ Bs := by
          intro d
          induction d with
          | zero => intro _; exact ⟨[], by simpa using hheap0 (by rw [hc]; simp)⟩
          | succ d ihd =>
            intro hle
            obtain ⟨Bs, hBs⟩ := ihd (by omega)
            obtain ⟨x, hx⟩ := nx d (by omega)
            by_cases hp : listed.getD (i + d) false = true ∧ cls P Γ x.op = .E
            · have hdi := dpos d x hx hp.2
              have hal : isAlloc x.op = true := by
                cases ha : isAlloc x.op with
                | true => rfl
                | false =>
                  obtain ⟨t', a', id', l, q1, q2, q3, _⟩ := hlt (i + d) x hdi hx hp.1 hp.2 hc ha
                  exact absurd ⟨t', a', id', q1, q2, q3⟩ hform
              obtain ⟨Cs, hCs⟩ := semOp_alloc (hr.step (i + d) x hx).1 hal
              exact ⟨Bs ++ Cs, by rw [e4 d x hx hp.1 hp.2, hCs, e3 (i + d) x hx hp.1 hp.2, hBs, List.append_assoc]⟩
            · exact ⟨Bs, by rw [e5 d x hx hp]; exact hBs⟩
        obtain ⟨Bs, hBs⟩ := go (ops.size - i) (by omega)
        rw [show i + (ops.size - i) = ops.size by omega] at hBs
        exact ⟨Bs, by rw [hH, hBs]⟩
    have hheap : cls P Γ o.op = .E → H = Hs i := by
      intro hcE
      have hc : cls P Γ o.op ≠ .N := by rw [hcE]; simp
      rw [hH, hr.heap i (by simp; omega)]
      unfold heapAt
      have e1 : lastE P Γ ops.toList (fun k => listed.getD k false) ops.size = lastE P Γ ops.toList (fun k => listed.getD k false) i := by
        refine lastE_skip (by omega) fun j h1 h2 h3 => ?_
        cases hx : ops.toList[j]? with
        | none => simp [hx] at h3
        | some x =>
          simp only [hx, Option.map_some, Option.some.injEq] at h3
          rcases Nat.eq_or_lt_of_le h1 with rfl | hlt
          · exact hiS
          · exact behind j x hlt hx (meets2_E (⟨hcE, by rw [h3]; simp⟩))
      have e2 : lastE P Γ ops.toList (fun k => listed.getD k false) i = lastE P Γ ops.toList (fun _ => true) i := by
        refine lastE_congr fun j h1 h3 => ?_
        cases hx : ops.toList[j]? with
        | none => simp [hx] at h3
        | some x =>
          simp only [hx, Option.map_some, Option.some.injEq] at h3
          exact before j x h1 hx (meets2_E (⟨h3, hc⟩))
      rw [e1, e2]
    obtain ⟨H', hsem, hE1, hE2⟩ : ∃ H', semOp P Γ sy ops.toList tm H o = some (vs i, H') ∧ (cls P Γ o.op = .E → H' = Hs (i + 1)) ∧ (cls P Γ o.op ≠ .E → H' = H) := by
      by_cases hcR : cls P Γ o.op = .R
      · rcases hheapR hcR with hA | ⟨t, a, id, f1, f2, f3, f4⟩
        · exact semOp_congr (hr.step i o hol).1 hlook hM hheap fun _ => hA
        · have h1 := semOp_load (H := H) (hr.step i o hol).1 f1 f2 f3 f4
          obtain ⟨H', g1, _, g3⟩ := semOp_congr (H := H) h1 hlook hM (fun _ => rfl) (fun _ => ⟨[], by simp⟩)
          exact ⟨H', g1, (fun hE' => by rw [hcR] at hE'; cases hE'), g3⟩
      · exact semOp_congr (hr.step i o hol).1 hlook hM hheap fun hR => absurd hR hcR
    refine wpOp_sound hΓ ho hsem hrep hrel fun φ' w' v g1 g2 g3 => ?_
    have hlistget : ∀ k, (listed.setIfInBounds i true).getD k false = if k = i then true else listed.getD k false := by
      intro k
      by_cases e : k = i
      · subst e; simp [hil]
      · rw [if_neg e]; exact getD_set_ne false (fun e' => e e'.symm)
    refine ih (listed.setIfInBounds i true) _ w' φ' (putT tm o.dst (vs i)) H' (by simp [hsz]) ?_ ?_ (by rw [putT_length, hlen]) ?_ ?_ g2 ?_ (by cases o.dst <;> exact hd) ?_
    · have hcs := List.countP_set (p := (· == false)) (l := listed.toList) (i := i) (a := true) (by simpa using hil)
      have hli : listed.toList[i]'(by simpa using hil) = false := by simp [hil] at hun ⊢; exact hun
      have h1 : (if (listed.toList[i]'(by simpa using hil) == false) = true then 1 else 0) = 1 := by rw [hli]; rfl
      have h2 : (if (true == false) = true then 1 else 0) = 0 := rfl
      rw [Array.toList_setIfInBounds, hcs, h1, h2]
      omega
    · intro k x hx hk e he hb
      rw [hlistget] at hk ⊢
      by_cases e1 : k = i
      · subst e1
        rw [hol] at hx; cases hx
        split
        · rfl
        · exact hready' e he hb
      · rw [if_neg e1] at hk
        split
        · rfl
        · exact hcl k x hx hk e he hb
    · intro t
      rw [putT_get]
      unfold valAt
      by_cases hdt : o.dst = some t
      · rw [if_pos hdt]
        have e1 : lastW ops.toList (fun k => (listed.setIfInBounds i true).getD k false) t ops.size = some i := by
          rw [lastW_skip (i := i + 1) (by omega)]
          · simp only [lastW]
            rw [if_pos]
            exact ⟨by rw [hlistget]; simp, by simp [hol, hdt]⟩
          · intro j h1 h2 h3
            cases hx : ops.toList[j]? with
            | none => simp [hx] at h3
            | some x =>
              simp only [hx, Option.bind_some] at h3
              rw [hlistget, if_neg (by omega)]
              exact behind j x (by omega) hx (meets2_dst_dst hdt h3)
        rw [e1, hlen]
      · rw [if_neg hdt, htm t]
        unfold valAt
        have e1 : lastW ops.toList (fun k => (listed.setIfInBounds i true).getD k false) t ops.size = lastW ops.toList (fun k => listed.getD k false) t ops.size := by
          refine lastW_congr fun j _ h3 => ?_
          rw [hlistget, if_neg]
          rintro rfl
          simp only [hol, Option.bind_some] at h3
          exact hdt h3
        rw [e1]
    · by_cases hc : cls P Γ o.op = .E
      · rw [hE1 hc]
        unfold heapAt
        have e1 : lastE P Γ ops.toList (fun k => (listed.setIfInBounds i true).getD k false) ops.size = some i := by
          rw [lastE_skip (i := i + 1) (by omega)]
          · simp only [lastE]
            rw [if_pos]
            exact ⟨by rw [hlistget]; simp, by simp [hol, hc]⟩
          · intro j h1 h2 h3
            cases hx : ops.toList[j]? with
            | none => simp [hx] at h3
            | some x =>
              simp only [hx, Option.map_some, Option.some.injEq] at h3
              rw [hlistget, if_neg (by omega)]
              exact behind j x (by omega) hx (meets2_E (⟨hc, by rw [h3]; simp⟩))
        rw [e1]
      · rw [hE2 hc, hH]
        unfold heapAt
        have e1 : lastE P Γ ops.toList (fun k => (listed.setIfInBounds i true).getD k false) ops.size = lastE P Γ ops.toList (fun k => listed.getD k false) ops.size := by
          refine lastE_congr fun j _ h3 => ?_
          rw [hlistget, if_neg]
          rintro rfl
          simp only [hol, Option.map_some, Option.some.injEq] at h3
          exact hc h3
        rw [e1]
    · obtain ⟨ψ, rfl⟩ := g3.pre
      exact put_rel (tm_mono ψ hrel) g1 o.dst
    · intro φ2 w2 a2 k1 k2 k3 k4
      exact hQ φ2 w2 a2 k1 k2 k3 (g3.trans k4)

/-- A region that asks for its order, where loads may come up late. -/
theorem wp_region_late (hΓ : SpecOK P Γ) (hm : P.follows .mixedOrders = true) {id : Nat} {ops : Array Oper} {Q : Exit → Act → World → Prop} {a : Act} {w : World} {φ : Phi} {tm : List TV} {H : AH} {s : ASt}
    (hd : orderOk2 P Γ ops.toList = true) (hc : chainL P Γ sy ops.toList (masks ops.toList []) 0 ops.toList tm H = some s) (hrep : Rep φ H w.heap) (hrel : All2 (relT φ) tm a.tmps.toList) (hdef : a.defers = [])
    (hQ : ∀ φ' w' a', Rep φ' s.hp w'.heap → All2 (relT φ') s.tm a'.tmps.toList → a'.defers = [] → Ext φ H w φ' s.hp w' → Q .normal a' w') : (Code.region id ops true).wp P Q a w := by
  refine wp_region_any hm ?_
  obtain ⟨T, Hs, vs, h1, h2, h3, h4, h5⟩ := run_of_chainL hc
  have hlen : ops.toList.length = ops.size := by simp
  rw [hlen] at h3 h4
  have hfalse : ∀ k, (Array.replicate ops.size false).getD k false = false := by
    intro k
    by_cases hk : k < ops.size <;> simp [hk]
  refine wpAny_run2 (sy := sy) hΓ hd ⟨fun k o hk => (h5 k o hk).2⟩ (fun k o hk => by have := (h5 k o hk).1; rwa [Nat.zero_add] at this) ops.size (Array.replicate ops.size false) a { w with drawn := w.drawn + 1 } φ tm H (by simp) ?_ ?_ (by rw [h1]) ?_ ?_ hrep hrel hdef ?_
  · exact Nat.le_trans List.countP_le_length (by simp)
  · intro k o _ hk
    rw [hfalse] at hk; cases hk
  · intro t
    unfold valAt
    have e1 : lastW ops.toList (fun k => (Array.replicate ops.size false).getD k false) t ops.size = none := by
      rw [lastW_skip (i := 0) (by omega) fun j _ _ _ => hfalse j]
      rfl
    rw [e1, h1]
  · unfold heapAt
    have e1 : lastE P Γ ops.toList (fun k => (Array.replicate ops.size false).getD k false) ops.size = none := by
      rw [lastE_skip (i := 0) (by omega) fun j _ _ _ => hfalse j]
      rfl
    rw [e1, h2]
  · intro φ' w' a' g1 g2 g3 g4
    rw [h4] at g1 g4
    rw [h3] at g2
    exact hQ φ' w' a' g1 g2 g3 g4.drew
end
end Go.AM
end
