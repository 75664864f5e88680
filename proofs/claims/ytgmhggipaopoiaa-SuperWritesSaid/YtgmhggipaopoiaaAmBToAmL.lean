/-
  The abstract machine, part 11: whatever order the tape picks.
-/
import Derived.Test.YtgmhggipaopoiaaAmNToAmA
section
namespace Go.AM

section
variable {P : Program} {Γ : Specs} {sy : Nat → Option Nat}

theorem cl_eq (x : Cl) : x = .N ∨ x = .R ∨ x = .E := by cases x <;> simp

theorem meets_dst_look {ops : List Oper} {x y : Oper} {t : Nat} (hx : x.dst = some t) (hy : t ∈ looks ops y) : meets (infoOf P Γ ops x) (infoOf P Γ ops y) = true := by
  simp only [meets, infoOf, memb, hx, Bool.or_eq_true]
  exact .inl (.inl (.inl (by simpa using hy)))

theorem meets_look_dst {ops : List Oper} {x y : Oper} {t : Nat} (hy : y.dst = some t) (hx : t ∈ looks ops x) : meets (infoOf P Γ ops x) (infoOf P Γ ops y) = true := by
  simp only [meets, infoOf, memb, hy, Bool.or_eq_true]
  exact .inl (.inl (.inr (by simpa using hx)))

theorem meets_dst_dst {ops : List Oper} {x y : Oper} {t : Nat} (hx : x.dst = some t) (hy : y.dst = some t) : meets (infoOf P Γ ops x) (infoOf P Γ ops y) = true := by
  simp only [meets, infoOf, memb, hx, hy, Bool.or_eq_true]
  exact .inl (.inr (by simp))

theorem meets_E {ops : List Oper} {x y : Oper} (h : cls P Γ x.op = .E ∧ cls P Γ y.op ≠ .N ∨ cls P Γ x.op = .R ∧ cls P Γ y.op = .E ∧ isAlloc y.op = false) : meets (infoOf P Γ ops x) (infoOf P Γ ops y) = true := by
  simp only [meets, infoOf, Bool.or_eq_true]
  right
  rcases h with ⟨h1, h2⟩ | ⟨h1, h2, h3⟩
  · rw [h1]; rcases cl_eq (cls P Γ y.op) with e | e | e <;> rw [e] at h2 ⊢; exact (h2 rfl).elim
  · rw [h1, h2, h3]; rfl

theorem wpAny_run (hΓ : SpecOK P Γ) {ops : Array Oper} {Q : Exit → Act → World → Prop} (hok : orderOk P Γ ops.toList = true) {T : Nat → List TV} {Hs : Nat → AH} {vs : Nat → TV} (hr : Run P Γ sy ops.toList T Hs vs) :
    ∀ (fuel : Nat) (listed : Array Bool) (a : Act) (w : World) (φ : Phi) (tm : List TV) (H : AH),
      listed.size = ops.size → listed.toList.countP (· == false) ≤ fuel →
      (∀ (k : Nat) (o : Oper), ops.toList[k]? = some o → listed.getD k false = true → ∀ e ∈ o.after.toList, Region.binds .any e = true → listed.getD e.on false = true) →
      tm.length = (T 0).length → (∀ t, tm[t]? = valAt ops.toList vs (T 0) (fun k => listed.getD k false) ops.size t) → H = heapAt P Γ ops.toList Hs (fun k => listed.getD k false) ops.size →
      Rep φ H w.heap → All2 (relT φ) tm a.tmps.toList → a.defers = [] →
      (∀ φ' w' a', Rep φ' (Hs ops.size) w'.heap → All2 (relT φ') (T ops.size) a'.tmps.toList → a'.defers = [] → Ext φ H w φ' (Hs ops.size) w' → Q .normal a' w') →
      wpAny P .any ops Q fuel listed a w := by
  have hE := (by simpa only [orderOk, Bool.and_eq_true] using hok : edgesOk 0 ops.toList = true ∧ _).1
  -- when nothing may come up, all have
  have alldone : ∀ (listed : Array Bool), listed.size = ops.size → Region.ready .any ops listed = [] → ∀ k, k < ops.size → listed.getD k false = true := by
    intro listed hsz hnone k
    induction k using Nat.strongRecOn with
    | _ k ih =>
      intro hk
      cases hl : listed.getD k false with
      | true => rfl
      | false =>
        exfalso
        have hmem : k ∈ Region.ready .any ops listed := by
          refine mem_ready.2 ⟨?_, ops[k], Array.getElem?_eq_getElem hk, ?_⟩
          · simp [hsz, hk] at hl ⊢; exact hl
          · intro e he hb
            have hlt := edgesOk_spec hE k ops[k] (by simp [hk]) e (by simpa using he) hb
            exact ih e.on (by omega) (by omega)
        rw [hnone] at hmem
        cases hmem
  have fin : ∀ (listed : Array Bool) (a : Act) (w : World) (φ : Phi) (tm : List TV) (H : AH), listed.size = ops.size → Region.ready .any ops listed = [] →
      tm.length = (T 0).length → (∀ t, tm[t]? = valAt ops.toList vs (T 0) (fun k => listed.getD k false) ops.size t) → H = heapAt P Γ ops.toList Hs (fun k => listed.getD k false) ops.size →
      Rep φ H w.heap → All2 (relT φ) tm a.tmps.toList → a.defers = [] →
      (∀ φ' w' a', Rep φ' (Hs ops.size) w'.heap → All2 (relT φ') (T ops.size) a'.tmps.toList → a'.defers = [] → Ext φ H w φ' (Hs ops.size) w' → Q .normal a' w') → Q .normal a w := by
    intro listed a w φ tm H hsz hnone hlen htm hH hrep hrel hd hQ
    have hall := alldone listed hsz hnone
    have e1 : tm = T ops.size := by
      apply List.ext_getElem?
      intro t
      rw [htm t, hr.val ops.size (by simp) t]
      unfold valAt
      rw [lastW_congr fun j hj _ => hall j hj]
    have e2 : H = Hs ops.size := by
      rw [hH, hr.heap ops.size (by simp)]
      unfold heapAt
      rw [lastE_congr fun j hj _ => hall j hj]
    subst e1; subst e2
    exact hQ φ w a hrep hrel hd (Ext.refl _ _ _)
  intro fuel
  induction fuel with
  | zero =>
    intro listed a w φ tm H hsz hcnt hcl hlen htm hH hrep hrel hd hQ
    have hnone : Region.ready .any ops listed = [] := by
      cases hrd : Region.ready .any ops listed with
      | nil => rfl
      | cons i rest =>
        exfalso
        have hi : i ∈ Region.ready .any ops listed := by rw [hrd]; simp
        obtain ⟨hun, oi, hoi, _⟩ := mem_ready.1 hi
        have hlt : i < listed.size := by
          rcases Nat.lt_or_ge i listed.size with h' | h'
          · exact h'
          · simp [Array.getElem?_eq_none h'] at hun
        have hpos : 0 < listed.toList.countP (· == false) := by
          refine List.countP_pos_iff.2 ⟨listed[i], by simp, ?_⟩
          simp [hlt] at hun ⊢; exact hun
        omega
    exact ⟨hnone, fin listed a w φ tm H hsz hnone hlen htm hH hrep hrel hd hQ⟩
  | succ fuel ih =>
    intro listed a w φ tm H hsz hcnt hcl hlen htm hH hrep hrel hd hQ
    refine ⟨fun hnone => fin listed a w φ tm H hsz hnone hlen htm hH hrep hrel hd hQ, fun i hi => ?_⟩
    obtain ⟨hun, o, ho, hready⟩ := mem_ready.1 hi
    have hol : ops.toList[i]? = some o := by simpa using ho
    have hin : i < ops.size := by
      rcases Nat.lt_or_ge i ops.size with h' | h'
      · exact h'
      · simp [Array.getElem?_eq_none h'] at ho
    have hil : i < listed.size := by omega
    have hiS : listed.getD i false = false := by simp [hil] at hun ⊢; exact hun
    have hready' : ∀ e ∈ o.after.toList, Region.binds .any e = true → listed.getD e.on false = true := fun e he hb => hready e (by simpa using he) hb
    -- what meets 'i' and stands before it has come up; what meets it and stands behind it has not
    have before : ∀ (j : Nat) (x : Oper), j < i → ops.toList[j]? = some x → meets (infoOf P Γ ops.toList x) (infoOf P Γ ops.toList o) = true → listed.getD j false = true := by
      intro j x hj hx hm
      obtain ⟨m, h1, h2⟩ := waits_of_meets hok hj hx hol hm
      exact closed_mask hok (S := fun k => listed.getD k false) hcl i o m j hol hready' h1 h2
    have behind : ∀ (j : Nat) (x : Oper), i < j → ops.toList[j]? = some x → meets (infoOf P Γ ops.toList o) (infoOf P Γ ops.toList x) = true → listed.getD j false = false := by
      intro j x hj hx hm
      cases hl : listed.getD j false with
      | false => rfl
      | true =>
        obtain ⟨m, h1, h2⟩ := waits_of_meets hok hj hol hx hm
        have := closed_mask hok (S := fun k => listed.getD k false) hcl j x m i hx (hcl j x hx hl) h1 h2
        rw [this] at hiS; cases hiS
    -- what 'i' looks at is what it looks at in the order of the text
    have hlook : ∀ t ∈ looks ops.toList o, (T i)[t]? = tm[t]? := by
      intro t ht
      rw [htm t, hr.val i (by simp; omega) t]
      unfold valAt
      have e1 : lastW ops.toList (fun k => listed.getD k false) t ops.size = lastW ops.toList (fun k => listed.getD k false) t i := by
        refine lastW_skip (by omega) fun j h1 h2 h3 => ?_
        cases hx : ops.toList[j]? with
        | none => simp [hx] at h3
        | some x =>
          simp only [hx, Option.bind_some] at h3
          rcases Nat.eq_or_lt_of_le h1 with rfl | hlt
          · exact hiS
          · exact behind j x hlt hx (meets_look_dst h3 ht)
      have e2 : lastW ops.toList (fun k => listed.getD k false) t i = lastW ops.toList (fun _ => true) t i := by
        refine lastW_congr fun j h1 h3 => ?_
        cases hx : ops.toList[j]? with
        | none => simp [hx] at h3
        | some x =>
          simp only [hx, Option.bind_some] at h3
          exact before j x h1 hx (meets_dst_look h3 ht)
      rw [e1, e2]
    have hM : ∀ f, MonoS (Γ f) := fun f => by
      rcases hΓ f with h0 | ⟨_, _, hm⟩
      · rw [h0]; trivial
      · exact hm
    have hheap0 : cls P Γ o.op ≠ .N → heapAt P Γ ops.toList Hs (fun k => listed.getD k false) i = Hs i := by
      intro hc
      rw [hr.heap i (by simp; omega)]
      unfold heapAt
      have e2 : lastE P Γ ops.toList (fun k => listed.getD k false) i = lastE P Γ ops.toList (fun _ => true) i := by
        refine lastE_congr fun j h1 h3 => ?_
        cases hx : ops.toList[j]? with
        | none => simp [hx] at h3
        | some x =>
          simp only [hx, Option.map_some, Option.some.injEq] at h3
          exact before j x h1 hx (meets_E (.inl ⟨h3, hc⟩))
      rw [e2]
    have hheapR : cls P Γ o.op = .R → ∃ Bs, H = Hs i ++ Bs := by
      intro hc
      have go : ∀ d, i + d ≤ ops.size → ∃ Bs, heapAt P Γ ops.toList Hs (fun k => listed.getD k false) (i + d) = Hs i ++ Bs := by
        intro d
        induction d with
        | zero => intro _; exact ⟨[], by simpa using hheap0 (by rw [hc]; simp)⟩
        | succ d ihd =>
          intro hle
          obtain ⟨Bs, hBs⟩ := ihd (by omega)
          have hk : i + d < ops.size := by omega
          obtain ⟨x, hx⟩ : ∃ x, ops.toList[i + d]? = some x := ⟨ops.toList[i + d]'(by simpa using hk), List.getElem?_eq_getElem (by simpa using hk)⟩
          by_cases hp : listed.getD (i + d) false = true ∧ cls P Γ x.op = .E
          · have hdi : i < i + d := by
              rcases Nat.eq_zero_or_pos d with e | e
              · subst e
                rw [Nat.add_zero] at hx
                rw [hol] at hx; cases hx
                rw [hc] at hp; cases hp.2
              · omega
            have hal : isAlloc x.op = true := by
              cases ha : isAlloc x.op with
              | true => rfl
              | false =>
                have := behind (i + d) x hdi hx (meets_E (.inr ⟨hc, hp.2, ha⟩))
                rw [this] at hp; cases hp.1
            obtain ⟨Cs, hCs⟩ := semOp_alloc (hr.step (i + d) x hx).1 hal
            have e3 : Hs (i + d) = heapAt P Γ ops.toList Hs (fun k => listed.getD k false) (i + d) := by
              rw [hr.heap (i + d) (by simp; omega)]
              unfold heapAt
              rw [lastE_congr fun j h1 h3 => ?_]
              cases hy : ops.toList[j]? with
              | none => simp [hy] at h3
              | some y =>
                simp only [hy, Option.map_some, Option.some.injEq] at h3
                obtain ⟨m, g1, g2⟩ := waits_of_meets hok h1 hy hx (meets_E (.inl ⟨h3, by rw [hp.2]; simp⟩))
                exact (closed_mask hok (S := fun k => listed.getD k false) hcl (i + d) x m j hx (hcl (i + d) x hx hp.1) g1 g2).symm
            refine ⟨Bs ++ Cs, ?_⟩
            have e4 : heapAt P Γ ops.toList Hs (fun k => listed.getD k false) (i + (d + 1)) = Hs (i + d + 1) := by
              unfold heapAt
              rw [show i + (d + 1) = (i + d) + 1 by omega]
              simp only [lastE]
              rw [if_pos ⟨hp.1, by simp [hx, hp.2]⟩]
            rw [e4, hCs, e3, hBs, List.append_assoc]
          · refine ⟨Bs, ?_⟩
            rw [← hBs]
            unfold heapAt
            rw [show i + (d + 1) = (i + d) + 1 by omega]
            simp only [lastE]
            rw [if_neg]
            rintro ⟨h1, h2⟩
            simp only [hx, Option.map_some, Option.some.injEq] at h2
            exact hp ⟨h1, h2⟩
      obtain ⟨Bs, hBs⟩ := go (ops.size - i) (by omega)
      rw [show i + (ops.size - i) = ops.size by omega] at hBs
      exact ⟨Bs, by rw [hH, hBs]⟩
    have hheap : cls P Γ o.op = .E → H = Hs i := by
      intro hcE
      have hc : cls P Γ o.op ≠ .N := by rw [hcE]; simp
      rw [hH, hr.heap i (by simp; omega)]
      unfold heapAt
      have e1 : lastE P Γ ops.toList (fun k => listed.getD k false) ops.size = lastE P Γ ops.toList (fun k => listed.getD k false) i := by
        refine lastE_skip (by omega) fun j h1 h2 h3 => ?_
        cases hx : ops.toList[j]? with
        | none => simp [hx] at h3
        | some x =>
          simp only [hx, Option.map_some, Option.some.injEq] at h3
          rcases Nat.eq_or_lt_of_le h1 with rfl | hlt
          · exact hiS
          · exact behind j x hlt hx (meets_E (.inl ⟨hcE, by rw [h3]; simp⟩))
      have e2 : lastE P Γ ops.toList (fun k => listed.getD k false) i = lastE P Γ ops.toList (fun _ => true) i := by
        refine lastE_congr fun j h1 h3 => ?_
        cases hx : ops.toList[j]? with
        | none => simp [hx] at h3
        | some x =>
          simp only [hx, Option.map_some, Option.some.injEq] at h3
          exact before j x h1 hx (meets_E (.inl ⟨h3, hc⟩))
      rw [e1, e2]
    obtain ⟨H', hsem, hE1, hE2⟩ := semOp_congr (hr.step i o hol).1 hlook hM hheap hheapR
    refine wpOp_sound hΓ ho hsem hrep hrel fun φ' w' v g1 g2 g3 => ?_
    have hlistget : ∀ k, (listed.setIfInBounds i true).getD k false = if k = i then true else listed.getD k false := by
      intro k
      by_cases e : k = i
      · subst e; simp [hil]
      · rw [if_neg e]; exact getD_set_ne false (fun e' => e e'.symm)
    refine ih (listed.setIfInBounds i true) _ w' φ' (putT tm o.dst (vs i)) H' (by simp [hsz]) ?_ ?_ (by rw [putT_length, hlen]) ?_ ?_ g2 ?_ (by cases o.dst <;> exact hd) ?_
    · have hcs := List.countP_set (p := (· == false)) (l := listed.toList) (i := i) (a := true) (by simpa using hil)
      have hli : listed.toList[i]'(by simpa using hil) = false := by simp [hil] at hun ⊢; exact hun
      have h1 : (if (listed.toList[i]'(by simpa using hil) == false) = true then 1 else 0) = 1 := by rw [hli]; rfl
      have h2 : (if (true == false) = true then 1 else 0) = 0 := rfl
      rw [Array.toList_setIfInBounds, hcs, h1, h2]
      omega
    · intro k x hx hk e he hb
      rw [hlistget] at hk ⊢
      by_cases e1 : k = i
      · subst e1
        rw [hol] at hx; cases hx
        split
        · rfl
        · exact hready' e he hb
      · rw [if_neg e1] at hk
        split
        · rfl
        · exact hcl k x hx hk e he hb
    · intro t
      rw [putT_get]
      unfold valAt
      by_cases hdt : o.dst = some t
      · rw [if_pos hdt]
        have e1 : lastW ops.toList (fun k => (listed.setIfInBounds i true).getD k false) t ops.size = some i := by
          rw [lastW_skip (i := i + 1) (by omega)]
          · simp only [lastW]
            rw [if_pos]
            exact ⟨by rw [hlistget]; simp, by simp [hol, hdt]⟩
          · intro j h1 h2 h3
            cases hx : ops.toList[j]? with
            | none => simp [hx] at h3
            | some x =>
              simp only [hx, Option.bind_some] at h3
              rw [hlistget, if_neg (by omega)]
              exact behind j x (by omega) hx (meets_dst_dst hdt h3)
        rw [e1, hlen]
      · rw [if_neg hdt, htm t]
        unfold valAt
        have e1 : lastW ops.toList (fun k => (listed.setIfInBounds i true).getD k false) t ops.size = lastW ops.toList (fun k => listed.getD k false) t ops.size := by
          refine lastW_congr fun j _ h3 => ?_
          rw [hlistget, if_neg]
          rintro rfl
          simp only [hol, Option.bind_some] at h3
          exact hdt h3
        rw [e1]
    · by_cases hc : cls P Γ o.op = .E
      · rw [hE1 hc]
        unfold heapAt
        have e1 : lastE P Γ ops.toList (fun k => (listed.setIfInBounds i true).getD k false) ops.size = some i := by
          rw [lastE_skip (i := i + 1) (by omega)]
          · simp only [lastE]
            rw [if_pos]
            exact ⟨by rw [hlistget]; simp, by simp [hol, hc]⟩
          · intro j h1 h2 h3
            cases hx : ops.toList[j]? with
            | none => simp [hx] at h3
            | some x =>
              simp only [hx, Option.map_some, Option.some.injEq] at h3
              rw [hlistget, if_neg (by omega)]
              exact behind j x (by omega) hx (meets_E (.inl ⟨hc, by rw [h3]; simp⟩))
        rw [e1]
      · rw [hE2 hc, hH]
        unfold heapAt
        have e1 : lastE P Γ ops.toList (fun k => (listed.setIfInBounds i true).getD k false) ops.size = lastE P Γ ops.toList (fun k => listed.getD k false) ops.size := by
          refine lastE_congr fun j _ h3 => ?_
          rw [hlistget, if_neg]
          rintro rfl
          simp only [hol, Option.map_some, Option.some.injEq] at h3
          exact hc h3
        rw [e1]
    · obtain ⟨ψ, rfl⟩ := g3.pre
      exact put_rel (tm_mono ψ hrel) g1 o.dst
    · intro φ2 w2 a2 k1 k2 k3 k4
      exact hQ φ2 w2 a2 k1 k2 k3 (g3.trans k4)

theorem wp_region_am (hΓ : SpecOK P Γ) (hm : P.follows .mixedOrders = true) {id : Nat} {ops : Array Oper} {draw : Bool} {Q : Exit → Act → World → Prop} {a : Act} {w : World} {φ : Phi} {tm : List TV} {H : AH} {s : ASt}
    (hd : draw = true → orderOk P Γ ops.toList = true) (hc : chain P Γ sy ops.toList ops.toList tm H = some s) (hrep : Rep φ H w.heap) (hrel : All2 (relT φ) tm a.tmps.toList) (hdef : a.defers = [])
    (hQ : ∀ φ' w' a', Rep φ' s.hp w'.heap → All2 (relT φ') s.tm a'.tmps.toList → a'.defers = [] → Ext φ H w φ' s.hp w' → Q .normal a' w') : (Code.region id ops draw).wp P Q a w := by
  cases draw with
  | false =>
    refine wp_region ?_
    have := wpOps_chain (Q := Q) hΓ ops.toList 0 a w φ tm H s (by simp) hc hrep hrel hdef hQ
    rw [List.range_eq_range']
    simpa using this
  | true =>
    refine wp_region_any hm ?_
    obtain ⟨T, Hs, vs, h1, h2, h3, h4, h5⟩ := run_of_chain hc
    have hlen : ops.toList.length = ops.size := by simp
    rw [hlen] at h3 h4
    have hfalse : ∀ k, (Array.replicate ops.size false).getD k false = false := by
      intro k
      by_cases hk : k < ops.size <;> simp [hk]
    refine wpAny_run (sy := sy) hΓ (hd rfl) ⟨h5⟩ ops.size (Array.replicate ops.size false) a { w with drawn := w.drawn + 1 } φ tm H (by simp) ?_ ?_ (by rw [h1]) ?_ ?_ hrep hrel hdef ?_
    · exact Nat.le_trans List.countP_le_length (by simp)
    · intro k o _ hk
      rw [hfalse] at hk; cases hk
    · intro t
      unfold valAt
      have e1 : lastW ops.toList (fun k => (Array.replicate ops.size false).getD k false) t ops.size = none := by
        rw [lastW_skip (i := 0) (by omega) fun j _ _ _ => hfalse j]
        rfl
      rw [e1, h1]
    · unfold heapAt
      have e1 : lastE P Γ ops.toList (fun k => (Array.replicate ops.size false).getD k false) ops.size = none := by
        rw [lastE_skip (i := 0) (by omega) fun j _ _ _ => hfalse j]
        rfl
      rw [e1, h2]
    · intro φ' w' a' g1 g2 g3 g4
      rw [h4] at g1 g4
      rw [h3] at g2
      exact hQ φ' w' a' g1 g2 g3 g4.drew
end
end Go.AM
end

/-
  The abstract machine: a region that asks the tape for its order, where a load may come up behind a store that does not touch what it reads.
-/
section
namespace Go.AM

def addrId : TV → Option Nat
  | .v (.s (.p id _)) => some id
  | .v (.s (.pr id _ _ _)) => some id
  | .v (.s (.px id _ _ _ _ _ _ _)) => some id
  | .v (.s (.mpx id _ _ _ _ _ _ _ _ _)) => some id
  | _ => none

def slIds : TV → List Nat
  | .v (.s (.sl id _ _ _)) => [id]
  | .v (.s (.slr id _ _ _ _)) => [id]
  | .v (.s (.slc id _ _ _)) => [id]
  | .v (.s (.slq id _ _ _)) => [id]
  | .v (.s (.slw id _ _)) => [id]
  | .v (.s (.slk id _ _ _)) => [id]
  | .v (.s (.sld id _ _)) => [id]
  | .v (.s (.slz id _ _ _)) => [id]
  | .v (.s (.mem id _ _ _ _)) => [id]
  | .v (.s (.mems id _ _ _ _ _)) => [id]
  | _ => []

def touchedT (ρ : Operand → TV) (op : Op) : Option (List Nat) :=
  match op with
  | .store _ a x => match addrId (ρ a) with
    | some id => some (id :: slIds (ρ x))
    | none => none
  | .call c => match c.callee, c.args.toList with
    | .builtin .append, [a, _] => some (slIds (ρ a))
    | _, _ => none
  | _ => none

def allBelow (p : Nat → Bool) : Nat → Bool
  | 0 => true
  | n + 1 => allBelow p n && p n

def headOp (P : Program) (Γ : Specs) (sy : Nat → Option Nat) (ops : List Oper) (o : Oper) (tm : List TV) (H : AH) (k : List TV → AH → Tr ASt) : Tr ASt :=
  match o.guard with
  | none => doOp P Γ sy tm H o k
  | some (j, want) => match guardT ops tm j with
    | some (d, .v (.s (.b c))) => match sy d with
      | some g => .br g c
          (match want with
            | true => doOp P Γ sy (tm.set d (.k true)) H o k
            | false => k (putT (tm.set d (.k true)) o.dst (.tup [])) H)
          (match want with
            | true => k (putT (tm.set d (.k false)) o.dst (.tup [])) H
            | false => doOp P Γ sy (tm.set d (.k false)) H o k)
      | none => match c, want with
        | true, true => doOp P Γ sy tm H o k
        | false, false => doOp P Γ sy tm H o k
        | _, _ => k (putT tm o.dst (.tup [])) H
    | some (_, .k c) => match c, want with
      | true, true => doOp P Γ sy tm H o k
      | false, false => doOp P Γ sy tm H o k
      | _, _ => k (putT tm o.dst (.tup [])) H
    | some (_, .tup []) => k (putT tm o.dst (.tup [])) H
    | _ => .no

section
variable {P : Program} {Γ : Specs} {sy : Nat → Option Nat} {φ : Phi}

theorem headOp_sem {ops : List Oper} {o : Oper} {tm : List TV} {H : AH} {k : List TV → AH → Tr ASt} {s : ASt} (h : (headOp P Γ sy ops o tm H k).val = some s) :
    ∃ v H' tm', semOp P Γ sy ops (tm.map unk) H o = some (v, H') ∧ tm'.map unk = putT (tm.map unk) o.dst v ∧ (k tm' H').val = some s := by
  have doit : ∀ {tm1 : List TV}, tm1.map unk = tm.map unk → (doOp P Γ sy tm1 H o k).val = some s →
      ∃ v H' tm', (step P Γ (sy (o.dst.getD 0)) (evalT (tm.map unk)) H o.op).val = some (v, H') ∧ tm'.map unk = putT (tm.map unk) o.dst v ∧ (k tm' H').val = some s := by
    intro tm1 ht h
    unfold doOp at h
    cases hq : quickT tm1 o.op with
    | some b =>
      simp only [hq] at h
      exact ⟨tvb b, H, _, by rw [← ht, evalT_map]; exact quickT_step hq, by rw [putK_map, ht], h⟩
    | none =>
      simp only [hq] at h
      rw [Tr.val_bind] at h
      cases hs : (step P Γ (sy (o.dst.getD 0)) (evalT tm1) H o.op).val with
      | none => simp [hs] at h
      | some r => exact ⟨r.1, r.2, _, by rw [← ht, evalT_map, hs], by rw [putT_map, ht], by simpa [hs] using h⟩
  have skip : ∀ {tm1 : List TV}, tm1.map unk = tm.map unk → (k (putT tm1 o.dst (.tup [])) H).val = some s → ∃ tm', tm'.map unk = putT (tm.map unk) o.dst (.tup []) ∧ (k tm' H).val = some s :=
    fun ht h => ⟨_, by rw [putT_map, ht], h⟩
  unfold headOp at h
  cases hg : o.guard with
  | none =>
    simp only [hg] at h
    obtain ⟨v, H', tm', h1, h2⟩ := doit rfl h
    exact ⟨v, H', tm', by simp only [semOp, hg, h1], h2⟩
  | some gw =>
    obtain ⟨j, want⟩ := gw
    simp only [hg] at h
    split at h
    · rename_i d c hgt
      have hgm := guardT_map hgt
      obtain ⟨hget, _⟩ := guardT_get hgt
      have hset : ∀ c', c = c' → (tm.set d (.k c')).map unk = tm.map unk := fun c' e => by subst e; exact set_map hget
      split at h
      · cases c
        · simp only [Tr.val] at h
          cases want
          · obtain ⟨v, H', tm', h1, h2⟩ := doit (hset _ rfl) h
            exact ⟨v, H', tm', by simp only [semOp, hg, hgm, unk, if_true, h1], h2⟩
          · obtain ⟨tm', h1, h2⟩ := skip (hset _ rfl) h
            exact ⟨.tup [], H, tm', by simp [semOp, hg, hgm, unk], h1, h2⟩
        · simp only [Tr.val] at h
          cases want
          · obtain ⟨tm', h1, h2⟩ := skip (hset _ rfl) h
            exact ⟨.tup [], H, tm', by simp [semOp, hg, hgm, unk], h1, h2⟩
          · obtain ⟨v, H', tm', h1, h2⟩ := doit (hset _ rfl) h
            exact ⟨v, H', tm', by simp only [semOp, hg, hgm, unk, if_true, h1], h2⟩
      · cases c <;> cases want <;> simp only at h
        · obtain ⟨v, H', tm', h1, h2⟩ := doit rfl h
          exact ⟨v, H', tm', by simp only [semOp, hg, hgm, unk, if_true, h1], h2⟩
        · obtain ⟨tm', h1, h2⟩ := skip rfl h
          exact ⟨.tup [], H, tm', by simp [semOp, hg, hgm, unk], h1, h2⟩
        · obtain ⟨tm', h1, h2⟩ := skip rfl h
          exact ⟨.tup [], H, tm', by simp [semOp, hg, hgm, unk], h1, h2⟩
        · obtain ⟨v, H', tm', h1, h2⟩ := doit rfl h
          exact ⟨v, H', tm', by simp only [semOp, hg, hgm, unk, if_true, h1], h2⟩
    · rename_i d c hgt
      have hgm := guardT_map hgt
      cases c <;> cases want <;> simp only at h
      · obtain ⟨v, H', tm', h1, h2⟩ := doit rfl h
        exact ⟨v, H', tm', by simp only [semOp, hg, hgm, unk, if_true, h1], h2⟩
      · obtain ⟨tm', h1, h2⟩ := skip rfl h
        exact ⟨.tup [], H, tm', by simp [semOp, hg, hgm, unk], h1, h2⟩
      · obtain ⟨tm', h1, h2⟩ := skip rfl h
        exact ⟨.tup [], H, tm', by simp [semOp, hg, hgm, unk], h1, h2⟩
      · obtain ⟨v, H', tm', h1, h2⟩ := doit rfl h
        exact ⟨v, H', tm', by simp only [semOp, hg, hgm, unk, if_true, h1], h2⟩
    · rename_i d hgt
      have hgm := guardT_map hgt
      obtain ⟨tm', h1, h2⟩ := skip rfl h
      exact ⟨.tup [], H, tm', by simp only [semOp, hg, hgm, unk], h1, h2⟩
    · simp [Tr.val] at h

theorem closed_maskE {ops : List Oper} (hE : edgesOk 0 ops = true) {S : Nat → Bool} (hS : ∀ (k : Nat) (o : Oper), ops[k]? = some o → S k = true → ∀ e ∈ o.after.toList, Region.binds .any e = true → S e.on = true) :
    ∀ (k : Nat) (o : Oper) (m j : Nat), ops[k]? = some o → (∀ e ∈ o.after.toList, Region.binds .any e = true → S e.on = true) → (masks ops [])[k]? = some m → m.testBit j = true → S j = true := by
  intro k
  induction k using Nat.strongRecOn with
  | _ k ih =>
    intro o m j ho hS0 hm hj
    have hg := masks_get ops [] k o ho
    simp only [List.length_nil, Nat.zero_add] at hg
    rw [hm] at hg
    cases hg
    obtain ⟨e, he, hb, hej⟩ := maskOf_spec hj
    rcases hej with rfl | hej
    · exact hS0 e he hb
    · have hlt := edgesOk_spec hE k o ho e he hb
      simp only [Nat.zero_add] at hlt
      have hSe := hS0 e he hb
      cases hoe : ops[e.on]? with
      | none =>
        have : ops.length ≤ e.on := List.getElem?_eq_none_iff.1 hoe
        have : k < ops.length := by
          rcases Nat.lt_or_ge k ops.length with h' | h'
          · exact h'
          · simp [List.getElem?_eq_none h'] at ho
        omega
      | some oe =>
        have hme := masks_get ops [] e.on oe hoe
        simp only [List.length_nil, Nat.zero_add] at hme
        refine ih e.on hlt oe _ j hoe (hS e.on oe hoe hSe) hme ?_
        rw [List.getD_eq_getElem?_getD, List.getElem?_take, if_pos hlt, hme] at hej
        exact hej

/-! ### what an operation does not touch -/

theorem loadS_blk {H H' : AH} {t : TypeId} {a : TV} {id : Nat} (ha : addrId a = some id) (hb : blk H id = blk H' id) : loadS P H t a = loadS P H' t a := by
  have hc : blkC H id = blkC H' id := by unfold blkC; rw [hb]
  unfold addrId at ha
  split at ha <;> cases ha <;> simp only [loadS, loadN, loadO, loadT, loadX, hb, hc]

def Keeps (H H' : AH) (j : Nat) : Prop := blk H' j = blk H j

theorem keeps_set {H : AH} {id j : Nat} {B : Option Blk} (h : j ≠ id) : Keeps H (H.set id B) j := by
  unfold Keeps blk
  rw [List.getElem?_set_ne (fun e => h e.symm)]
theorem keeps_app {H H1 : AH} {j : Nat} (B : Option Blk) (hj : j < H.length) (hl : H.length ≤ H1.length) (h : Keeps H H1 j) : Keeps H (H1 ++ [B]) j := by
  unfold Keeps blk at *
  rw [List.getElem?_append_left (by omega)]
  exact h
theorem keeps_apps {H H1 : AH} {j : Nat} (Bs : AH) (hj : j < H.length) (hl : H.length ≤ H1.length) (h : Keeps H H1 j) : Keeps H (H1 ++ Bs) j := by
  unfold Keeps blk at *
  rw [List.getElem?_append_left (by omega)]
  exact h
theorem keeps_refl {H : AH} {j : Nat} : Keeps H H j := rfl
theorem Keeps.trans {H H1 H2 : AH} {j : Nat} (h : Keeps H H1 j) (k : Keeps H1 H2 j) : Keeps H H2 j := Eq.trans k h

theorem chk_val {α : Type} {y : Option Nat} {c : Bool} {t : Tr α} {a : α} (h : (chk y c t).val = some a) : t.val = some a := (val_chk h).2

theorem putN_keeps {H H' : AH} {id : Nat} {ks : List SK} {c0 : Nat} {ms : List SK} {n : Nat} {g h : Nat → Nat → Int} {ow : Ow} {i : Nat} {a : AS} {j : Nat} (hv : (putN H id ks c0 ms n g h ow i a).val = some H') (hj : j < H.length) (h1 : j ≠ id) (h2 : j ∉ slIds (.v (.s a))) : Keeps H H' j := by
  unfold putN at hv
  split at hv
  · cases hc : (owPut ow i).1 <;> simp only [hc, Tr.val] at hv
    · cases hv
    · cases hv
      exact keeps_app _ hj (by simp) (keeps_set h1)
  · rename_i N wd m
    have hN : j ≠ N := fun e => h2 (by simp [slIds, e])
    split at hv
    · split at hv
      · split at hv
        · cases hc : (owPut ow i).1 <;> simp only [hc, Tr.val] at hv
          · cases hv
          · cases hv
            exact keeps_app _ hj (by simp) ((keeps_set hN).trans (keeps_set h1))
        · simp [Tr.val] at hv
      · simp [Tr.val] at hv
    · simp [Tr.val] at hv
  · simp [Tr.val] at hv

theorem storeS_keeps {H H' : AH} {t : TypeId} {a v : TV} {id j : Nat} (ha : addrId a = some id) (hv : (storeS P H t a v).val = some H') (hj : j < H.length) (h1 : j ≠ id) (h2 : j ∉ slIds v) : Keeps H H' j := by
  have fin : ∀ {B : Option Blk}, H' = H.set id B → Keeps H H' j := fun e => by rw [e]; exact keeps_set h1
  unfold addrId at ha
  split at ha <;> cases ha
  · simp only [storeS, storeN, storeO, storeT] at hv
    repeat' split at hv
    all_goals first
      | (simp [Tr.val] at hv; done)
      | (rw [forceL_eq] at hv; have := val_ok hv; exact fin (by rw [this]))
      | skip
  · unfold storeS at hv
    split at hv
    · rename_i r hr
      simp only [storeN] at hr
      split at hr
      · cases hr
        repeat' split at hv
        all_goals first
          | (simp [Tr.val] at hv; done)
          | (have := val_ok hv; exact fin (by rw [this]))
          | (rw [forceL_eq] at hv; have := val_ok hv; exact fin (by rw [this]))
          | exact putN_keeps hv hj h1 h2
      · cases hr
    · simp only [storeO, storeT] at hv
      repeat' split at hv
      all_goals first
        | (simp [Tr.val] at hv; done)
        | (have := val_ok hv; exact fin (by rw [this]))
        | (rw [forceL_eq] at hv; have := val_ok hv; exact fin (by rw [this]))
        | exact putN_keeps hv hj h1 h2
  · unfold storeS at hv
    split at hv
    · rename_i r hr
      simp only [storeN] at hr
      split at hr
      · cases hr
        repeat' split at hv
        all_goals first
          | (simp [Tr.val] at hv; done)
          | (have := val_ok hv; exact fin (by rw [this]))
          | (rw [forceL_eq] at hv; have := val_ok hv; exact fin (by rw [this]))
          | exact putN_keeps hv hj h1 h2
      · cases hr
    · simp only [storeO, storeX] at hv
      repeat' split at hv
      all_goals first
        | (simp [Tr.val] at hv; done)
        | (have := val_ok hv; exact fin (by rw [this]))
        | (rw [forceL_eq] at hv; have := val_ok hv; exact fin (by rw [this]))
        | exact putN_keeps hv hj h1 h2
  · simp only [storeS, storeN] at hv
    repeat' split at hv
    all_goals first
      | (simp [Tr.val] at hv; done)
      | (have := val_ok hv; exact fin (by rw [this]))
      | (rw [forceL_eq] at hv; have := val_ok hv; exact fin (by rw [this]))
      | exact putN_keeps hv hj h1 h2

theorem toSlw_heap (r : TV × AH) : (toSlw r).2 = r.2 := by
  unfold toSlw
  split <;> rfl

theorem appendT_keeps {H H' : AH} {y : Option Nat} {sT xT : TypeId} {s x v : TV} {j : Nat} (hv : (appendT P y H sT xT s x).val = some (v, H')) (hj : j < H.length) (h : j ∉ slIds s) : Keeps H H' j := by
  unfold appendT at hv
  repeat' split at hv
  all_goals first
    | (simp [Tr.val] at hv; done)
    | (have e := val_ok (chk_val hv); simp only [Prod.mk.injEq] at e; rw [← e.2]; exact keeps_app _ hj (Nat.le_refl _) keeps_refl)
    | (have e := val_ok (chk_val hv); simp only [Prod.mk.injEq] at e; rw [← e.2]; exact keeps_app _ hj (by simp) (keeps_set fun e => h (by simp [slIds, e])))
    | (have e := val_ok (val_chkB hv).2; simp only [Prod.mk.injEq] at e; rw [← e.2]; exact keeps_app _ hj (by simp) (keeps_set fun e => h (by simp [slIds, e])))

theorem inT_keeps {H H' : AH} {y : Option Nat} {sT xT : TypeId} {s x v : TV} {j : Nat} {r : Tr (TV × AH)} (hr : inT P y H sT xT s x = some r) (hv : r.val = some (v, H')) (hj : j < H.length) (h : j ∉ slIds s) : Keeps H H' j := by
  unfold inT at hr
  repeat' split at hr
  all_goals first
    | (cases hr; done)
    | (cases hr; have e := val_ok (chk_val hv); simp only [Prod.mk.injEq] at e; rw [← e.2]; exact keeps_app _ hj (by simp) (keeps_set fun e => h (by simp [slIds, e])))

theorem appendS_keeps {H H' : AH} {y : Option Nat} {sT xT : TypeId} {s x v : TV} {j : Nat} (hv : (appendS P y H sT xT s x).val = some (v, H')) (hj : j < H.length) (h : j ∉ slIds s) : Keeps H H' j := by
  unfold appendS at hv
  split at hv
  · repeat' split at hv
    all_goals first
      | (simp [Tr.val] at hv; done)
      | (have e := val_ok (chk_val hv); simp only [Prod.mk.injEq] at e; rw [← e.2]; exact keeps_app _ hj (by simp) (keeps_app _ hj (Nat.le_refl _) keeps_refl))
  · repeat' split at hv
    all_goals first
      | (simp [Tr.val] at hv; done)
      | (have e := val_ok (chk_val hv); simp only [Prod.mk.injEq] at e; rw [← e.2]; exact keeps_app _ hj (by simp) (keeps_app _ hj (Nat.le_refl _) keeps_refl))
  · repeat' split at hv
    all_goals first
      | (simp [Tr.val] at hv; done)
      | (have e := val_ok (chk_val hv); simp only [Prod.mk.injEq] at e; rw [← e.2]; exact keeps_app _ hj (by simp) (keeps_set fun e => h (by simp [slIds, e])))
      | (have e := val_ok (val_chkB hv).2; simp only [Prod.mk.injEq] at e; rw [← e.2]; exact keeps_app _ hj (by simp) (keeps_set fun e => h (by simp [slIds, e])))
  · split at hv
    · rename_i r hr
      exact inT_keeps hr hv hj h
    · rw [Tr.val_bind] at hv
      cases ha : (appendT P y H sT xT s x).val with
      | none => simp [ha] at hv
      | some q =>
        simp only [ha, Option.bind_some] at hv
        have e := val_ok hv
        have e2 : (toSlw q).2 = H' := by rw [e]
        rw [toSlw_heap] at e2
        obtain ⟨q1, q2⟩ := q
        simp only at e2
        subst e2
        exact appendT_keeps ha hj h

theorem appendA_keeps {H H' : AH} {y : Option Nat} {sT xT : TypeId} {s x v : TV} {j : Nat} (hv : (appendA P y H sT xT s x).val = some (v, H')) (hj : j < H.length) (h : j ∉ slIds s) : Keeps H H' j := by
  unfold appendA at hv
  split at hv
  · rename_i id F wd i len
    have hid : j ≠ id := fun e => h (by simp [slIds, e])
    unfold appendM at hv
    repeat' split at hv
    all_goals first
      | (simp [Tr.val] at hv; done)
      | exact Keeps.trans (keeps_app _ hj (by simp) (keeps_set hid)) (appendS_keeps hv (by simp; omega) (by simp [slIds]; omega))
  · split at hv
    · unfold appendNN at hv
      repeat' split at hv
      all_goals first
        | (simp [Tr.val] at hv; done)
        | (have e := val_ok (chk_val hv); simp only [Prod.mk.injEq] at e; rw [← e.2]; exact keeps_apps _ hj (Nat.le_refl _) keeps_refl)
    · exact appendS_keeps hv hj h
  · split at hv
    · unfold appendNN at hv
      repeat' split at hv
      all_goals first
        | (simp [Tr.val] at hv; done)
        | (have e := val_ok (chk_val hv); simp only [Prod.mk.injEq] at e; rw [← e.2]; exact keeps_apps _ hj (Nat.le_refl _) keeps_refl)
    · exact appendS_keeps hv hj h
  · exact appendS_keeps hv hj h

theorem touched_keeps {H H' : AH} {y : Option Nat} {ρ : Operand → TV} {op : Op} {v : TV} {l : List Nat} {j : Nat} (hv : (stepE P Γ y ρ H op).val = some (v, H')) (ht : touchedT ρ op = some l) (hj : j < H.length) (h : j ∉ l) : Keeps H H' j := by
  unfold touchedT at ht
  split at ht
  · rename_i t a x
    split at ht
    · rename_i id hid
      cases ht
      simp only [stepE, Tr.val_bind] at hv
      cases hs : (storeS P H t (ρ a) (ρ x)).val with
      | none => simp [hs] at hv
      | some H1 =>
        simp only [hs, Option.bind_some] at hv
        have e := val_ok hv
        simp only [Prod.mk.injEq] at e
        rw [← e.2]
        simp only [List.mem_cons, not_or] at h
        exact storeS_keeps hid hs hj h.1 h.2
    · cases ht
  · rename_i c
    split at ht
    · rename_i a b hc ha
      cases ht
      simp only [stepE, hc] at hv
      rw [ha] at hv
      split at hv
      · rename_i sT xT a' b' h1 h2
        cases h2
        exact appendA_keeps hv hj h
      · simp [Tr.val] at hv
    · cases ht
  · cases ht

theorem allBelow_spec {p : Nat → Bool} : ∀ {n : Nat}, allBelow p n = true → ∀ i, i < n → p i = true
  | 0, _, i, hi => absurd hi (Nat.not_lt_zero i)
  | n + 1, h, i, hi => by
    simp only [allBelow, Bool.and_eq_true] at h
    by_cases e : i = n
    · rw [e]; exact h.2
    · exact allBelow_spec h.1 i (by omega)

theorem loadS_some {H : AH} {t : TypeId} {a v : TV} {id : Nat} (ha : addrId a = some id) (hv : (loadS P H t a).val = some v) : ∃ b, blk H id = some b := by
  cases hb : blk H id with
  | some b => exact ⟨b, rfl⟩
  | none =>
    exfalso
    have hc : blkC H id = none := by unfold blkC; rw [hb]
    unfold addrId at ha
    split at ha <;> cases ha <;> simp [loadS, loadN, loadO, loadT, loadX, hb, hc, Tr.val] at hv

end
end Go.AM
end
