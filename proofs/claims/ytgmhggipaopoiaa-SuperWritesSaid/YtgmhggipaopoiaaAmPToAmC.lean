/-
  The abstract machine: a region that asks the tape for its order, where what is made may come up ahead, and loads ahead or behind of what does not touch what they read.
-/
import Derived.Test.YtgmhggipaopoiaaAmBToAmL
section
namespace Go.AM

def isMake : Op → Bool
  | .alloc _ | .buildSlice .. | .makeSlice .. => true
  | _ => false

def isMakeO (o : Oper) : Bool :=
  match o.guard with
  | none => isMake o.op
  | some _ => false

def plainLoad (o : Oper) : Option Nat :=
  match o.op with
  | .load _ (.tmp a) => some a
  | _ => none

def skips (ops : List Oper) (tm : List TV) (o : Oper) : Bool :=
  match o.guard with
  | none => false
  | some (j, want) => match guardT ops tm j with
    | some (_, .v (.s (.b c))) => !(c == want)
    | some (_, .k c) => !(c == want)
    | some (_, .tup []) => true
    | _ => false

structure Info3 where
  dst : Option Nat
  lks : List Nat
  cl : Cl
  nw : Bool
  ld : Bool

def infoOf3 (P : Program) (Γ : Specs) (ops : List Oper) (o : Oper) : Info3 := ⟨o.dst, looks ops o, cls P Γ o.op, isMakeO o, (plainLoad o).isSome⟩

def meets3 (x y : Info3) : Bool :=
  memb x.dst y.lks || memb y.dst x.lks || memb x.dst y.dst.toList ||
  (match x.cl, y.cl with
   | .E, .E => !y.nw
   | .E, .R => !y.ld
   | .R, .E => !(y.nw || x.ld)
   | _, _ => false)

def allBelow2 (n : Nat) (p : Nat → Nat → Bool) : Bool := allBelow (fun k => allBelow (fun j => p j k) k) n

def meetOk (is : List Info3) (ms : List Nat) (j k : Nat) : Bool :=
  match is[j]?, is[k]? with
  | some x, some y => !(meets3 x y) || (ms.getD k 0).testBit j
  | _, _ => true

def pinOk (is : List Info3) (ms : List Nat) (n j k : Nat) : Bool :=
  match is[j]?, is[k]? with
  | some x, some y => match x.cl, y.cl with
    | .E, .E => (ms.getD k 0).testBit j || allBelow (fun l => Nat.ble l k || (match is[l]? with
      | some z => !(memb y.dst z.lks || memb y.dst z.dst.toList) || (ms.getD l 0).testBit j
      | none => true)) n
    | _, _ => true
  | _, _ => true

def orderOk3 (P : Program) (Γ : Specs) (ops : List Oper) : Bool :=
  edgesOk 0 ops && (allBelow2 ops.length (meetOk (ops.map (infoOf3 P Γ ops)) (masks ops [])) && allBelow2 ops.length (pinOk (ops.map (infoOf3 P Γ ops)) (masks ops []) ops.length))

def reachIds (H : AH) : Nat → List Nat → List Nat
  | 0, X => X
  | n + 1, X => reachIds H n (X.foldl (fun Y id => (idsB (blk H id)).foldl (fun Y j => match Y.contains j with
    | true => Y
    | false => Y ++ [j]) Y) X)

def touched3 (ρ : Operand → TV) (H : AH) (op : Op) : Option (List Nat) :=
  match op with
  | .call c => match c.callee with
    | .value x => match closedIds H (reachIds H H.length (idsT (ρ x) ++ idsTs (c.args.toList.map ρ))) with
      | true => match (idsT (ρ x) ++ idsTs (c.args.toList.map ρ)).all fun i => (reachIds H H.length (idsT (ρ x) ++ idsTs (c.args.toList.map ρ))).contains i with
        | true => some (reachIds H H.length (idsT (ρ x) ++ idsTs (c.args.toList.map ρ)))
        | false => none
      | false => none
    | _ => touchedT ρ op
  | _ => touchedT ρ op

structure Dyn where
  sk : Bool
  tou : Option (List Nat)
  len : Nat
  ad : Option Nat

def dynOf (P : Program) (Γ : Specs) (ops : List Oper) (o : Oper) (tm : List TV) (H : AH) : Dyn :=
  ⟨skips ops tm o, match isMakeO o with
    | true => some []
    | false => match cls P Γ o.op with
      | .E => touched3 (evalT tm) H o.op
      | _ => some [], H.length, match plainLoad o with
    | some a => addrId (evalT tm (.tmp a))
    | none => none⟩

def late3 (x y : Dyn) : Bool :=
  match x.sk with
  | true => true
  | false => match x.ad with
    | some id => match y.sk with
      | true => true
      | false => match y.tou with
        | some l => !(l.contains id)
        | none => false
    | none => false

def early3 (x y : Dyn) : Bool :=
  match y.sk with
  | true => true
  | false => match y.ad with
    | some id => Nat.blt id x.len && (match x.sk with
      | true => true
      | false => match x.tou with
        | some l => !(l.contains id)
        | none => false)
    | none => false

def clsAt (P : Program) (Γ : Specs) (ops : List Oper) (i : Nat) : Cl :=
  match ops[i]? with
  | some x => cls P Γ x.op
  | none => .N

def ok3 (P : Program) (Γ : Specs) (ops : List Oper) (m : Nat) (acc : List Dyn) (k : Nat) (o : Oper) (d : Dyn) : Bool :=
  match cls P Γ o.op with
  | .N => true
  | .E => match isMakeO o with
    | true => true
    | false => allBelow (fun i => m.testBit i || (match clsAt P Γ ops i with
      | .R => (match acc[i]? with
        | some x => late3 x d
        | none => false)
      | _ => true)) k
  | .R => allBelow (fun i => m.testBit i || (match clsAt P Γ ops i with
      | .E => (match acc[i]? with
        | some x => early3 x d
        | none => false)
      | _ => true)) k

def runOps3 (P : Program) (Γ : Specs) (sy : Nat → Option Nat) (ops : List Oper) (ms : List Nat) : (k : Nat) → List Dyn → List Oper → List TV → AH → Tr ASt
  | _, _, [], tm, H => .ok ⟨tm, H⟩
  | k, acc, o :: rest, tm, H => cond (ok3 P Γ ops (ms.getD k 0) acc k o (dynOf P Γ ops o tm H))
      (headOp P Γ sy ops o tm H fun tm' H' => cond (Nat.ble H.length H'.length) (runOps3 P Γ sy ops ms (k + 1) (acc ++ [dynOf P Γ ops o tm H]) rest tm' H') .no) .no

def chain3 (P : Program) (Γ : Specs) (sy : Nat → Option Nat) (ops : List Oper) (ms : List Nat) : (k : Nat) → List Dyn → List Oper → List TV → AH → Option ASt
  | _, _, [], tm, H => some ⟨tm, H⟩
  | k, acc, o :: rest, tm, H => cond (ok3 P Γ ops (ms.getD k 0) acc k o (dynOf P Γ ops o tm H)) (match semOp P Γ sy ops tm H o with
    | some (v, H') => cond (Nat.ble H.length H'.length) (chain3 P Γ sy ops ms (k + 1) (acc ++ [dynOf P Γ ops o tm H]) rest (putT tm o.dst v) H') none
    | none => none) none

section
variable {P : Program} {Γ : Specs} {sy : Nat → Option Nat}

theorem guardT_unk {ops : List Oper} {tm : List TV} {j : Nat} : guardT ops (tm.map unk) j = (guardT ops tm j).map fun p => (p.1, unk p.2) := by
  unfold guardT
  cases ops[j]? with
  | none => rfl
  | some oj =>
    cases h : oj.dst with
    | none => simp [h]
    | some d =>
      simp only [h, List.getElem?_map]
      cases tm[d]? <;> rfl

theorem skips_map {ops : List Oper} {tm : List TV} {o : Oper} : skips ops (tm.map unk) o = skips ops tm o := by
  unfold skips
  split
  · rfl
  · rw [guardT_unk]
    rename_i j want _
    cases guardT ops tm j with
    | none => rfl
    | some p =>
      obtain ⟨d, v⟩ := p
      cases v <;> rfl

theorem dynOf_map {ops : List Oper} {o : Oper} {tm : List TV} {H : AH} : dynOf P Γ ops o (tm.map unk) H = dynOf P Γ ops o tm H := by
  unfold dynOf
  rw [evalT_map, skips_map]

theorem runOps3_chain {ops : List Oper} {ms : List Nat} : ∀ {l : List Oper} {k : Nat} {acc : List Dyn} {tm : List TV} {H : AH} {s : ASt}, (runOps3 P Γ sy ops ms k acc l tm H).val = some s → chain3 P Γ sy ops ms k acc l (tm.map unk) H = some ⟨s.tm.map unk, s.hp⟩
  | [], k, acc, tm, H, s, h => by rw [runOps3] at h; have := val_ok h; subst this; rfl
  | o :: rest, k, acc, tm, H, s, h => by
    rw [runOps3] at h
    rw [chain3, dynOf_map]
    cases hl : ok3 P Γ ops (ms.getD k 0) acc k o (dynOf P Γ ops o tm H) with
    | false => rw [hl] at h; simp [Tr.val] at h
    | true =>
      rw [hl] at h
      obtain ⟨v, H', tm', h1, h2, h3⟩ := headOp_sem h
      rw [h1]
      cases hb : Nat.ble H.length H'.length with
      | false => rw [hb] at h3; simp [Tr.val] at h3
      | true =>
        rw [hb] at h3
        have := runOps3_chain h3
        rw [h2] at this
        simp only [hb, cond_true]
        exact this

theorem run_of_chain3 {all : List Oper} {ms : List Nat} : ∀ {l : List Oper} {n : Nat} {acc : List Dyn} {tm : List TV} {H : AH} {s : ASt}, chain3 P Γ sy all ms n acc l tm H = some s →
    ∃ (T : Nat → List TV) (Hs : Nat → AH) (vs : Nat → TV) (D : Nat → Dyn), T 0 = tm ∧ Hs 0 = H ∧ T l.length = s.tm ∧ Hs l.length = s.hp ∧
      ∀ (k : Nat) (o : Oper), l[k]? = some o → D k = dynOf P Γ all o (T k) (Hs k) ∧ ok3 P Γ all (ms.getD (n + k) 0) (acc ++ (List.range k).map D) (n + k) o (D k) = true ∧ (Hs k).length ≤ (Hs (k + 1)).length ∧
        semOp P Γ sy all (T k) (Hs k) o = some (vs k, Hs (k + 1)) ∧ T (k + 1) = putT (T k) o.dst (vs k)
  | [], n, acc, tm, H, s, h => by
    simp only [chain3, Option.some.injEq] at h
    subst h
    exact ⟨fun _ => tm, fun _ => H, fun _ => .any, fun _ => ⟨false, none, 0, none⟩, rfl, rfl, rfl, rfl, fun k o h => by simp at h⟩
  | o :: l, n, acc, tm, H, s, h => by
    rw [chain3] at h
    cases hl : ok3 P Γ all (ms.getD n 0) acc n o (dynOf P Γ all o tm H) with
    | false => rw [hl] at h; cases h
    | true =>
      rw [hl] at h
      simp only [cond_true] at h
      split at h
      · rename_i v H' hs
        cases hb : Nat.ble H.length H'.length with
        | false => rw [hb] at h; cases h
        | true =>
          rw [hb] at h
          simp only [cond_true] at h
          obtain ⟨T, Hs, vs, D, h1, h2, h3, h4, h5⟩ := run_of_chain3 h
          refine ⟨fun | 0 => tm | k + 1 => T k, fun | 0 => H | k + 1 => Hs k, fun | 0 => v | k + 1 => vs k, fun | 0 => dynOf P Γ all o tm H | k + 1 => D k, rfl, rfl, h3, h4, ?_⟩
          intro k o' hk
          cases k with
          | zero =>
            simp at hk
            subst hk
            exact ⟨rfl, by simpa using hl, by simpa [h2] using Nat.le_of_ble_eq_true hb, by simpa [h2] using hs, h1⟩
          | succ k =>
            simp at hk
            obtain ⟨g1, g2, g3, g4, g5⟩ := h5 k o' hk
            refine ⟨g1, ?_, g3, g4, g5⟩
            rw [show n + 1 + k = n + (k + 1) by omega] at g2
            rw [List.range_succ_eq_map]
            simpa [Function.comp_def] using g2
      · cases h

/-! ### what the checks say -/

theorem allBelow2_spec {n : Nat} {p : Nat → Nat → Bool} (h : allBelow2 n p = true) {j k : Nat} (hjk : j < k) (hk : k < n) : p j k = true := allBelow_spec (allBelow_spec h k hk) j hjk

theorem lt_of_get {α : Type} {l : List α} {i : Nat} {x : α} (h : l[i]? = some x) : i < l.length := by
  rcases Nat.lt_or_ge i l.length with h' | h'
  · exact h'
  · rw [List.getElem?_eq_none h'] at h; cases h

theorem masks_length (ops : List Oper) : (masks ops []).length = ops.length := by
  obtain ⟨r, h1, h2⟩ := masks_append ops []
  rw [h1]; simpa using h2

theorem bit_listed {ops : List Oper} (hE : edgesOk 0 ops = true) {S : Nat → Bool} (hS : ∀ (k : Nat) (o : Oper), ops[k]? = some o → S k = true → ∀ e ∈ o.after.toList, Region.binds .any e = true → S e.on = true)
    {k j : Nat} {o : Oper} (ho : ops[k]? = some o) (hr : ∀ e ∈ o.after.toList, Region.binds .any e = true → S e.on = true) (hb : ((masks ops []).getD k 0).testBit j = true) : S j = true := by
  have hk := lt_of_get ho
  have hm : (masks ops [])[k]? = some ((masks ops []).getD k 0) := by
    rw [List.getD_eq_getElem?_getD, List.getElem?_eq_getElem (by rw [masks_length]; exact hk)]; rfl
  exact closed_maskE hE hS k o _ j ho hr hm hb

theorem meets3_bit {ops : List Oper} (h : orderOk3 P Γ ops = true) {j k : Nat} {x y : Oper} (hjk : j < k) (hx : ops[j]? = some x) (hy : ops[k]? = some y) (hm : meets3 (infoOf3 P Γ ops x) (infoOf3 P Γ ops y) = true) : ((masks ops []).getD k 0).testBit j = true := by
  simp only [orderOk3, Bool.and_eq_true] at h
  have h1 := allBelow2_spec h.2.1 hjk (lt_of_get hy)
  unfold meetOk at h1
  simp only [List.getElem?_map, hx, hy, Option.map_some, hm, Bool.not_true, Bool.false_or] at h1
  exact h1

theorem pin_bit {ops : List Oper} (h : orderOk3 P Γ ops = true) {j k l t : Nat} {x y z : Oper} (hjk : j < k) (hkl : k < l) (hx : ops[j]? = some x) (hy : ops[k]? = some y) (hz : ops[l]? = some z) (hcx : cls P Γ x.op = .E) (hcy : cls P Γ y.op = .E)
    (hd : y.dst = some t) (ht : t ∈ looks ops z ∨ z.dst = some t) (hb : ((masks ops []).getD k 0).testBit j = false) : ((masks ops []).getD l 0).testBit j = true := by
  simp only [orderOk3, Bool.and_eq_true] at h
  have h1 := allBelow2_spec h.2.2 hjk (lt_of_get hy)
  unfold pinOk at h1
  simp only [List.getElem?_map, hx, hy, Option.map_some, infoOf3, hcx, hcy, hb, Bool.false_or] at h1
  have h2 := allBelow_spec h1 l (lt_of_get hz)
  simp only [hz, Option.map_some, Bool.or_eq_true, Bool.not_eq_true'] at h2
  rcases h2 with h2 | h2 | h2
  · have := Nat.le_of_ble_eq_true h2; omega
  · exfalso
    obtain ⟨h3, h4⟩ := Bool.or_eq_false_iff.1 h2
    change memb y.dst (looks ops z) = false at h3
    change memb y.dst z.dst.toList = false at h4
    rw [hd] at h3 h4
    rcases ht with ht | ht
    · simp [memb, ht] at h3
    · simp [memb, ht] at h4
  · exact h2

theorem meets3_dst_look {ops : List Oper} {x y : Oper} {t : Nat} (hx : x.dst = some t) (hy : t ∈ looks ops y) : meets3 (infoOf3 P Γ ops x) (infoOf3 P Γ ops y) = true := by
  simp only [meets3, infoOf3, memb, hx, Bool.or_eq_true]
  exact .inl (.inl (.inl (by simpa using hy)))

theorem meets3_look_dst {ops : List Oper} {x y : Oper} {t : Nat} (hy : y.dst = some t) (hx : t ∈ looks ops x) : meets3 (infoOf3 P Γ ops x) (infoOf3 P Γ ops y) = true := by
  simp only [meets3, infoOf3, memb, hy, Bool.or_eq_true]
  exact .inl (.inl (.inr (by simpa using hx)))

theorem meets3_dst_dst {ops : List Oper} {x y : Oper} {t : Nat} (hx : x.dst = some t) (hy : y.dst = some t) : meets3 (infoOf3 P Γ ops x) (infoOf3 P Γ ops y) = true := by
  simp only [meets3, infoOf3, memb, hx, hy, Bool.or_eq_true]
  exact .inl (.inr (by simp))

theorem meets3_EE {ops : List Oper} {x y : Oper} (hx : cls P Γ x.op = .E) (hy : cls P Γ y.op = .E) (hn : isMakeO y = false) : meets3 (infoOf3 P Γ ops x) (infoOf3 P Γ ops y) = true := by
  simp [meets3, infoOf3, hx, hy, hn]

theorem plainLoad_spec {o : Oper} {a : Nat} (h : plainLoad o = some a) : ∃ t, o.op = .load t (.tmp a) := by
  unfold plainLoad at h
  split at h
  · rename_i t a' h1
    cases h
    exact ⟨t, h1⟩
  · cases h

theorem semOp_skip {ops : List Oper} {tm : List TV} {H H1 H0 : AH} {o : Oper} {v : TV} (hv : semOp P Γ sy ops tm H0 o = some (v, H1)) (hs : skips ops tm o = true) : semOp P Γ sy ops tm H o = some (v, H) ∧ H1 = H0 := by
  unfold skips at hs
  unfold semOp at hv ⊢
  split at hs
  · cases hs
  · rename_i j want hg
    simp only [hg] at hv ⊢
    split at hs
    · rename_i d c hgt
      simp only [hgt] at hv ⊢
      have hc : c ≠ want := by rintro rfl; simp at hs
      rw [if_neg hc] at hv ⊢
      simp only [Option.some.injEq, Prod.mk.injEq] at hv
      exact ⟨by rw [hv.1], hv.2.symm⟩
    · rename_i d c hgt
      simp only [hgt] at hv
      cases hv
    · rename_i d hgt
      simp only [hgt] at hv ⊢
      simp only [Option.some.injEq, Prod.mk.injEq] at hv
      exact ⟨by rw [hv.1], hv.2.symm⟩
    · cases hs

theorem semOp_load3 {ops : List Oper} {tm : List TV} {H H1 H0 : AH} {o : Oper} {v : TV} {t : TypeId} {a : Nat} {id : Nat} (hv : semOp P Γ sy ops tm H0 o = some (v, H1)) (ho : o.op = .load t (.tmp a)) (ha : addrId (evalT tm (.tmp a)) = some id) (hb : blk H id = blk H0 id) :
    semOp P Γ sy ops tm H o = some (v, H) := by
  have key : (step P Γ (sy (o.dst.getD 0)) (evalT tm) H0 o.op).val = some (v, H1) → (step P Γ (sy (o.dst.getD 0)) (evalT tm) H o.op).val = some (v, H) := by
    intro hv
    simp only [step, ho, cls, stepR, Tr.val_bind] at hv ⊢
    rw [loadS_blk ha hb]
    cases hs : (loadS P H0 t (evalT tm (.tmp a))).val with
    | none => simp [hs] at hv
    | some u =>
      simp only [hs, Option.bind_some] at hv ⊢
      have e := val_ok hv
      simp only [Prod.mk.injEq] at e
      rw [← e.1]
      rfl
  unfold semOp at hv ⊢
  split at hv
  · rename_i hg
    exact key hv
  · split at hv
    · split at hv
      · rename_i hc
        simp only [hc, if_true]
        exact key hv
      · rename_i hc
        simp only [hc, if_false]
        simp only [Option.some.injEq, Prod.mk.injEq] at hv
        rw [hv.1]
    · simp only [Option.some.injEq, Prod.mk.injEq] at hv
      rw [hv.1]
    · cases hv

theorem semOp_loads3 {ops : List Oper} {tm : List TV} {H1 H0 : AH} {o : Oper} {v : TV} {t : TypeId} {a : Nat} {id : Nat} (hv : semOp P Γ sy ops tm H0 o = some (v, H1)) (ho : o.op = .load t (.tmp a)) (hk : skips ops tm o = false) (ha : addrId (evalT tm (.tmp a)) = some id) : ∃ b, blk H0 id = some b := by
  have key : (step P Γ (sy (o.dst.getD 0)) (evalT tm) H0 o.op).val = some (v, H1) → ∃ b, blk H0 id = some b := by
    intro hv
    simp only [step, ho, cls, stepR, Tr.val_bind] at hv
    cases hs : (loadS P H0 t (evalT tm (.tmp a))).val with
    | none => simp [hs] at hv
    | some u => exact loadS_some ha hs
  unfold skips at hk
  unfold semOp at hv
  split at hv
  · exact key hv
  · rename_i j want hg
    simp only [hg] at hk
    split at hv
    · rename_i d c hgt
      simp only [hgt] at hk
      split at hv
      · exact key hv
      · rename_i hc
        simp [hc] at hk
    · rename_i d hgt
      simp only [hgt] at hk
      cases hk
    · cases hv

/-! ### what an operation leaves, calls too -/

theorem callT_keeps (hM : ∀ f, MonoS (Γ f)) {f : FuncId} {args : List TV} {H H' : AH} {v : TV} {X : List Nat} {j : Nat} (hv : (callT Γ f args H).val = some (v, H')) (ha : ∀ i ∈ idsTs args, i ∈ X) (hX : closedIds H X = true) (hj : j < H.length) (hn : j ∉ X) : Keeps H H' j := by
  unfold callT Spec.app at hv
  have hf := hM f
  cases hs : Γ f with
  | none => rw [hs] at hv; simp [Tr.val] at hv
  | pure F =>
    rw [hs] at hv
    simp only [Tr.val_bind, Option.bind_eq_some_iff] at hv
    obtain ⟨r, _, h2⟩ := hv
    have := val_ok h2
    simp only [Prod.mk.injEq] at this
    rw [← this.2]; exact keeps_refl
  | read F =>
    rw [hs] at hv
    simp only [Tr.val_bind, Option.bind_eq_some_iff] at hv
    obtain ⟨r, _, h2⟩ := hv
    have := val_ok h2
    simp only [Prod.mk.injEq] at this
    rw [← this.2]; exact keeps_refl
  | eff F =>
    rw [hs] at hv hf
    exact hf _ _ _ _ _ _ hv ha hX hj hn

theorem idsTs_append {a b : List TV} : idsTs (a ++ b) = idsTs a ++ idsTs b := by
  induction a with
  | nil => rfl
  | cons x a ih => simp [idsTs, ih]

theorem idsTs_caps {caps : List (Nat × Nat)} : idsTs (caps.map fun c => TV.v (.s (.p c.1 c.2))) = caps.map (·.1) := by
  induction caps with
  | nil => rfl
  | cons x a ih => simp [idsTs, ih, idsT, idsA, idsS]

theorem touched3_keeps (hM : ∀ f, MonoS (Γ f)) {H H' : AH} {y : Option Nat} {ρ : Operand → TV} {op : Op} {v : TV} {l : List Nat} {j : Nat} (hv : (stepE P Γ y ρ H op).val = some (v, H')) (ht : touched3 ρ H op = some l) (hj : j < H.length) (h : j ∉ l) : Keeps H H' j := by
  unfold touched3 at ht
  split at ht
  · rename_i c
    split at ht
    · rename_i x hx
      split at ht
      · rename_i hcl
        split at ht
        · rename_i hall
          cases ht
          simp only [stepE, hx] at hv
          split at hv
          · rename_i f caps hf
            refine callT_keeps hM hv (fun i hi => ?_) hcl hj h
            have := List.all_eq_true.1 hall i (by
              rw [idsTs_append, idsTs_caps] at hi
              rw [hf]
              simp only [idsT, idsA, idsS]
              rcases List.mem_append.1 hi with h1 | h1
              · exact List.mem_append_right _ h1
              · exact List.mem_append_left _ h1)
            simpa using this
          · simp [Tr.val] at hv
        · cases ht
      · cases ht
    · exact touched_keeps hv ht hj h
  · exact touched_keeps hv ht hj h

theorem semOp_touched3 (hM : ∀ f, MonoS (Γ f)) {ops : List Oper} {tm : List TV} {H H' : AH} {o : Oper} {v : TV} {l : List Nat} {j : Nat} (hv : semOp P Γ sy ops tm H o = some (v, H')) (hc : cls P Γ o.op = .E) (ht : touched3 (evalT tm) H o.op = some l) (hj : j < H.length) (h : j ∉ l) : Keeps H H' j := by
  have key : (step P Γ (sy (o.dst.getD 0)) (evalT tm) H o.op).val = some (v, H') → Keeps H H' j := by
    intro hs
    unfold step at hs
    rw [hc] at hs
    exact touched3_keeps hM hs ht hj h
  unfold semOp at hv
  split at hv
  · exact key hv
  · split at hv
    · split at hv
      · exact key hv
      · simp only [Option.some.injEq, Prod.mk.injEq] at hv; rw [← hv.2]; exact keeps_refl
    · simp only [Option.some.injEq, Prod.mk.injEq] at hv; rw [← hv.2]; exact keeps_refl
    · cases hv

/-! ### what is made hangs on no memory -/

theorem chk_true {α : Type} {y : Option Nat} {t : Tr α} : (chk y true t).val = t.val := by cases y <;> rfl

theorem makeT_len {y : Option Nat} {t : TypeId} {a b : TV} {H H' : AH} {v : TV} (h : (makeT P y H t a b).val = some (v, H')) : ∃ Bs, H' = H ++ Bs ∧ ∀ H2 : AH, H2.length = H.length → (makeT P y H2 t a b).val = some (v, H2 ++ Bs) := by
  unfold makeT at h ⊢
  repeat' split at h
  all_goals first
    | (simp [Tr.val] at h; done)
    | (obtain ⟨hc, h⟩ := val_chk h
       have e := val_ok h
       simp only [Prod.mk.injEq] at e
       obtain ⟨rfl, rfl⟩ := e
       refine ⟨_, rfl, fun H2 hl => ?_⟩
       obtain ⟨h01, h02⟩ := ‹(_ : Nat) ≠ 0 ∧ _›
       simp only [hl, h02, *, ne_eq, not_false_eq_true, and_self, if_true, chk_true]
       rfl)

theorem buildSliceT_len {t : TypeId} {len : Nat} {ps : List (Nat × AV)} {H H' : AH} {v : TV} (h : buildSliceT P H t len ps = some (v, H')) : ∃ Bs, H' = H ++ Bs ∧ ∀ H2 : AH, H2.length = H.length → buildSliceT P H2 t len ps = some (v, H2 ++ Bs) := by
  unfold buildSliceT at h ⊢
  repeat' split at h
  all_goals first
    | (cases h; done)
    | (simp only [Option.some.injEq, Prod.mk.injEq] at h
       obtain ⟨rfl, rfl⟩ := h
       refine ⟨_, rfl, fun H2 hl => ?_⟩
       simp_all)

theorem buildY_len {y : Option Nat} {t : TypeId} {len : Nat} {ps : List (Nat × AV)} {H H' : AH} {v : TV} (h : buildY P y H t len ps = some (v, H')) : ∃ Bs, H' = H ++ Bs ∧ ∀ H2 : AH, H2.length = H.length → buildY P y H2 t len ps = some (v, H2 ++ Bs) := by
  unfold buildY at h ⊢
  split at h
  · unfold buildRowsT at h ⊢
    repeat' split at h
    all_goals first
      | (cases h; done)
      | (simp only [Option.some.injEq, Prod.mk.injEq] at h
         obtain ⟨rfl, rfl⟩ := h
         refine ⟨_, rfl, fun H2 hl => ?_⟩
         simp_all)
  · exact buildSliceT_len h

theorem step_make {y : Option Nat} {ρ : Operand → TV} {op : Op} {H H' : AH} {v : TV} (hm : isMake op = true) (h : (step P Γ y ρ H op).val = some (v, H')) : ∃ Bs, H' = H ++ Bs ∧ ∀ H2 : AH, H2.length = H.length → (step P Γ y ρ H2 op).val = some (v, H2 ++ Bs) := by
  cases op <;> simp only [isMake] at hm <;> first | cases hm | skip
  case alloc t =>
    simp only [step, cls, stepE] at h ⊢
    split at h
    · rename_i l hz
      have e := val_ok h
      simp only [allocA, Prod.mk.injEq] at e
      obtain ⟨rfl, rfl⟩ := e
      exact ⟨_, rfl, fun H2 hl => by simp only [hz, allocA, hl]; rfl⟩
    · simp [Tr.val] at h
  case buildSlice t len parts =>
    cases len with
    | zero =>
      simp only [step, cls, Tr.val_bind, Option.bind_eq_some_iff] at h ⊢
      obtain ⟨u, h1, h2⟩ := h
      have e := val_ok h2
      simp only [Prod.mk.injEq] at e
      obtain ⟨rfl, rfl⟩ := e
      exact ⟨[], by simp, fun H2 _ => ⟨_, h1, by simp [Tr.val]⟩⟩
    | succ len =>
      simp only [step, cls, stepE] at h ⊢
      split at h
      · rename_i ps hp
        cases hb : buildY P y H t (len + 1) ps with
        | none => rw [hb] at h; simp [opt, Tr.val] at h
        | some r =>
          rw [hb] at h
          have e := val_ok h
          subst e
          obtain ⟨Bs, h1, h2⟩ := buildY_len hb
          exact ⟨Bs, h1, fun H2 hl => by rw [h2 H2 hl]; rfl⟩
      · simp [Tr.val] at h
  case makeSlice t l c =>
    simp only [step, cls, stepE] at h ⊢
    exact makeT_len h

theorem semOp_make {ops : List Oper} {tm : List TV} {o : Oper} {H H' : AH} {v : TV} (hm : isMakeO o = true) (h : semOp P Γ sy ops tm H o = some (v, H')) : ∃ Bs, H' = H ++ Bs ∧ ∀ H2 : AH, H2.length = H.length → semOp P Γ sy ops tm H2 o = some (v, H2 ++ Bs) := by
  unfold isMakeO at hm
  cases hg : o.guard with
  | some g => rw [hg] at hm; cases hm
  | none =>
    rw [hg] at hm
    simp only [semOp, hg] at h ⊢
    exact step_make hm h

theorem exec_make {e : Operand → Value} {o : Oper} {w : World} (hm : isMake o.op = true) {f : FuncId} {args : Array Value} {w' : World} : (execOp e o).run P w ≠ .ok (.enter f args) w' := by
  have key : ∀ s : Sem Value, (do pure (.value (← s)) : Sem Next).run P w ≠ .ok (.enter f args) w' := by
    intro s h
    simp only [Sem.run_bind] at h
    cases hr : s.run P w with
    | ok v w1 => rw [hr] at h; simp at h
    | halt x w1 => rw [hr] at h; simp at h
  cases hop : o.op <;> simp only [hop, isMake] at hm <;> first | cases hm | skip
  all_goals
    simp only [execOp, hop]
    exact key _

/-! ### what was made ahead -/

theorem rep_none (φ : Phi) (heap : Array Obj) {n : Nat} (hn : φ.length = n) : Rep φ (List.replicate n none) heap := by
  have no : ∀ {id : Nat} {B : Blk}, (List.replicate n (none : Option Blk))[id]? ≠ some (some B) := by
    intro id B h
    rw [List.getElem?_replicate] at h
    split at h <;> cases h
  exact ⟨by simp [hn], fun id B h => (no h).elim, fun id id' B B' L L' b h => (no h).elim⟩

theorem wpOp_make (hΓ : SpecOK P Γ) {ops : Array Oper} {Q : Exit → Act → World → Prop} {i : Nat} {o : Oper} {K : Act → World → Prop} {a : Act} {w : World} {tm : List TV} {Hk H1 : AH} {v : TV} {φ : Phi}
    (ho : ops[i]? = some o) (hm : isMakeO o = true) (hs : semOp P Γ sy ops.toList tm Hk o = some (v, H1)) (htm : All2 (relT φ) tm a.tmps.toList) (hle : φ.length ≤ Hk.length)
    (hK : ∀ w' u, w.heap.size ≤ w'.heap.size → (∀ b, b < w.heap.size → w'.heap[b]? = w.heap[b]?) → w'.os = w.os → w'.output = w.output → w'.tape = w.tape →
      (∃ Bs, H1 = Hk ++ Bs ∧ ∀ δ : Phi, (φ ++ δ).length = Hk.length → ∃ ψ, Rep (φ ++ δ ++ ψ) (List.replicate Hk.length none ++ Bs) w'.heap ∧ relT (φ ++ δ ++ ψ) v u ∧
        ∀ (id : Nat) (B : Blk) (L : Loc) (b : Nat), (List.replicate Hk.length (none : Option Blk) ++ Bs)[id]? = some (some B) → (φ ++ δ ++ ψ)[id]? = some L → B.foot (φ ++ δ ++ ψ) L b → w.heap.size ≤ b) → K (a.put o.dst u) w') :
    wpOp P ops Q i K a w := by
  obtain ⟨Bs, hH, hs2⟩ := semOp_make hm hs
  have hs3 := hs2 (List.replicate Hk.length none) (by simp)
  unfold isMakeO at hm
  cases hg : o.guard with
  | some g => rw [hg] at hm; cases hm
  | none =>
    rw [hg] at hm
    simp only [semOp, hg] at hs3
    have no : ∀ {id : Nat} {B : Blk}, (List.replicate Hk.length (none : Option Blk))[id]? ≠ some (some B) := by
      intro id B h
      rw [List.getElem?_replicate] at h
      split at h <;> cases h
    have doit : ∀ δ : Phi, (φ ++ δ).length = Hk.length → ∃ u w', ((execOp a.eval o).run P w = .ok (.value u) w' ∨ ((execOp a.eval o).run P w = .ok .skip w' ∧ u = undef)) ∧ w.heap.size ≤ w'.heap.size ∧ (∀ b, b < w.heap.size → w'.heap[b]? = w.heap[b]?) ∧ w'.os = w.os ∧ w'.output = w.output ∧ w'.tape = w.tape ∧
        ∃ ψ, Rep (φ ++ δ ++ ψ) (List.replicate Hk.length none ++ Bs) w'.heap ∧ relT (φ ++ δ ++ ψ) v u ∧
          ∀ (id : Nat) (B : Blk) (L : Loc) (b : Nat), (List.replicate Hk.length (none : Option Blk) ++ Bs)[id]? = some (some B) → (φ ++ δ ++ ψ)[id]? = some L → B.foot (φ ++ δ ++ ψ) L b → w.heap.size ≤ b := by
      intro δ hδ
      have hd := step_sound hΓ (evalT_rel (tm_mono δ htm)) (fun f => rfl) hs3 (rep_none (φ ++ δ) w.heap hδ)
      rcases hd with ⟨u, w', φ', hr, h1, h2, h3⟩ | ⟨f, args, hr, _⟩
      · obtain ⟨ψ, hψ⟩ := h3.pre
        subst hψ
        exact ⟨u, w', hr, h3.size, fun b hb => h3.frame b hb fun id B L hB => (no hB).elim, h3.os, h3.output, h3.tape, ψ, h2, h1, fun id B L b hB hL hf => by
          rcases h3.img id B L b hB hL hf with h' | ⟨id0, B0, L0, e1, _⟩
          · exact h'
          · exact (no e1).elim⟩
      · exact (exec_make hm hr).elim
    obtain ⟨u, w', hr, e1, e2, e3, e4, e5, _⟩ := doit (List.replicate (Hk.length - φ.length) ⟨0, 0, 0, 0, .nil⟩) (by simp; omega)
    have hk := hK w' u e1 e2 e3 e4 e5 ⟨Bs, hH, fun δ hδ => by
      obtain ⟨u2, w2, hr2, _, _, _, _, _, ψ, k1, k2, k3⟩ := doit δ hδ
      have hu : u2 = u ∧ w2 = w' := by
        rcases hr with hr | ⟨hr, rfl⟩ <;> rcases hr2 with hr2 | ⟨hr2, rfl⟩ <;> rw [hr] at hr2 <;> cases hr2 <;> exact ⟨rfl, rfl⟩
      obtain ⟨rfl, rfl⟩ := hu
      exact ⟨ψ, k1, k2, k3⟩⟩
    unfold wpOp
    simp only [ho, Region.wanted, hg, if_true]
    refine .inl ?_
    unfold Oper.wp
    rcases hr with hr | ⟨hr, rfl⟩
    · rw [hr]; exact hk
    · rw [hr]; exact hk

theorem Rep.of_feet {φ : Phi} {H : AH} {heap heap' : Array Obj} (h : Rep φ H heap) (he : ∀ (id : Nat) (B : Blk) (L : Loc) (b : Nat), H[id]? = some (some B) → φ[id]? = some L → B.foot φ L b → heap'[b]? = heap[b]?) : Rep φ H heap' :=
  ⟨h.len, fun id B hB => let ⟨L, h1, h2⟩ := h.blk id B hB; ⟨L, h1, h2.of_heap fun b hf => he id B L b hB h1 hf⟩, h.apart⟩

structure Pin (n0 : Nat) (dst : Option Nat) (Hk H1 : AH) (v : TV) (φ : Phi) (H : AH) (heap : Array Obj) (tmps : Array Value) (lo hi : Nat) : Prop where
  hlo : n0 ≤ lo
  hhi : hi ≤ heap.size
  free : ∀ (id : Nat) (B : Blk) (L : Loc) (b : Nat), H[id]? = some (some B) → φ[id]? = some L → lo ≤ b → b < hi → ¬ B.foot φ L b
  later : ∃ Bs, H1 = Hk ++ Bs ∧ ∀ δ : Phi, (φ ++ δ).length = Hk.length → ∃ ψ, Rep (φ ++ δ ++ ψ) (List.replicate Hk.length none ++ Bs) heap ∧ (∀ t u, dst = some t → tmps[t]? = some u → relT (φ ++ δ ++ ψ) v u) ∧
    ∀ (id : Nat) (B : Blk) (L : Loc) (b : Nat), (List.replicate Hk.length (none : Option Blk) ++ Bs)[id]? = some (some B) → (φ ++ δ ++ ψ)[id]? = some L → B.foot (φ ++ δ ++ ψ) L b → lo ≤ b ∧ b < hi

theorem Pin.step {n0 : Nat} {dst : Option Nat} {Hk H1 : AH} {v : TV} {φ φ1 : Phi} {H H' : AH} {heap heap1 : Array Obj} {tmps tmps1 : Array Value} {lo hi : Nat} (h : Pin n0 dst Hk H1 v φ H heap tmps lo hi) (he : ExtH φ H heap φ1 H' heap1)
    (ht : ∀ t, dst = some t → tmps1[t]? = tmps[t]?) : Pin n0 dst Hk H1 v φ1 H' heap1 tmps1 lo hi := by
  refine ⟨h.hlo, Nat.le_trans h.hhi he.size, ?_, ?_⟩
  · intro id B L b hB hL h1 h2 hf
    rcases he.img id B L b hB hL hf with h' | ⟨id0, B0, L0, e1, e2, e3, _⟩
    · have := h.hhi; omega
    · exact h.free id0 B0 L0 b e1 e2 h1 h2 e3
  · obtain ⟨Bs, hH, hl⟩ := h.later
    obtain ⟨χ, rfl⟩ := he.pre
    refine ⟨Bs, hH, fun δ hδ => ?_⟩
    obtain ⟨ψ, k1, k2, k3⟩ := hl (χ ++ δ) (by rw [← List.append_assoc]; exact hδ)
    rw [← List.append_assoc] at k1 k2 k3
    refine ⟨ψ, k1.of_feet fun id B L b hB hL hf => ?_, fun t u hd hu => k2 t u hd (by rw [← ht t hd]; exact hu), k3⟩
    obtain ⟨e1, e2⟩ := k3 id B L b hB hL hf
    exact he.frame b (by have := h.hhi; omega) fun id0 B0 L0 g1 _ g3 => h.free id0 B0 L0 b g1 g3 e1 e2

theorem Pin.adopt {n0 : Nat} {dst : Option Nat} {Hk H1 : AH} {v : TV} {φ : Phi} {heap : Array Obj} {tmps : Array Value} {lo hi : Nat} (h : Pin n0 dst Hk H1 v φ Hk heap tmps lo hi) (hrep : Rep φ Hk heap) :
    ∃ ψ, Rep (φ ++ ψ) H1 heap ∧ (∀ t u, dst = some t → tmps[t]? = some u → relT (φ ++ ψ) v u) ∧
      ∀ (id : Nat) (B : Blk) (L : Loc) (b : Nat), H1[id]? = some (some B) → (φ ++ ψ)[id]? = some L → B.foot (φ ++ ψ) L b → (lo ≤ b ∧ b < hi) ∨ (Hk[id]? = some (some B) ∧ φ[id]? = some L ∧ B.foot φ L b) := by
  obtain ⟨Bs, rfl, hl⟩ := h.later
  obtain ⟨ψ, k1, k2, k3⟩ := hl [] (by simpa using hrep.len)
  simp only [List.append_nil] at k1 k2 k3
  have low : ∀ {id : Nat} {B : Blk}, id < Hk.length → (Hk ++ Bs)[id]? = some (some B) → Hk[id]? = some (some B) := fun hi h => by rwa [List.getElem?_append_left hi] at h
  have high : ∀ {id : Nat} {B : Blk}, Hk.length ≤ id → (Hk ++ Bs)[id]? = some (some B) → (List.replicate Hk.length (none : Option Blk) ++ Bs)[id]? = some (some B) := fun hi h => by
    rw [List.getElem?_append_right hi] at h
    rw [List.getElem?_append_right (by simpa using hi)]
    simpa using h
  have lowφ : ∀ {id : Nat} {L : Loc}, id < Hk.length → (φ ++ ψ)[id]? = some L → φ[id]? = some L := fun hi h => by rwa [List.getElem?_append_left (by rw [hrep.len]; exact hi)] at h
  have foots : ∀ {id : Nat} {B : Blk} {L : Loc} {b : Nat}, id < Hk.length → (Hk ++ Bs)[id]? = some (some B) → (φ ++ ψ)[id]? = some L → B.foot (φ ++ ψ) L b → Hk[id]? = some (some B) ∧ φ[id]? = some L ∧ B.foot φ L b := by
    intro id B L b hi hB hL hf
    have g1 := low hi hB
    have g2 := lowφ hi hL
    obtain ⟨L', g3, g4⟩ := hrep.blk id B g1
    rw [g2] at g3; cases g3
    exact ⟨g1, g2, (g4.foot_iff ψ b).1 hf⟩
  refine ⟨ψ, ⟨?_, ?_, ?_⟩, k2, ?_⟩
  · have := k1.len
    simpa using this
  · intro id B hB
    rcases Nat.lt_or_ge id Hk.length with hlt | hge
    · obtain ⟨L, g1, g2⟩ := hrep.blk id B (low hlt hB)
      exact ⟨L, get_prefix g1, g2.mono ψ⟩
    · exact k1.blk id B (high hge hB)
  · intro id id' B B' L L' b hB hB' hL hL' hne hm hf hf'
    rcases Nat.lt_or_ge id Hk.length with h1 | h1 <;> rcases Nat.lt_or_ge id' Hk.length with h2 | h2
    · obtain ⟨a1, a2, a3⟩ := foots h1 hB hL hf
      obtain ⟨b1, b2, b3⟩ := foots h2 hB' hL' hf'
      exact hrep.apart id id' B B' L L' b a1 b1 a2 b2 hne hm a3 b3
    · obtain ⟨a1, a2, a3⟩ := foots h1 hB hL hf
      obtain ⟨e1, e2⟩ := k3 id' B' L' b (high h2 hB') hL' hf'
      exact h.free id B L b a1 a2 e1 e2 a3
    · obtain ⟨b1, b2, b3⟩ := foots h2 hB' hL' hf'
      obtain ⟨e1, e2⟩ := k3 id B L b (high h1 hB) hL hf
      exact h.free id' B' L' b b1 b2 e1 e2 b3
    · exact k1.apart id id' B B' L L' b (high h1 hB) (high h2 hB') hL hL' hne hm hf hf'
  · intro id B L b hB hL hf
    rcases Nat.lt_or_ge id Hk.length with h1 | h1
    · exact .inr (foots h1 hB hL hf)
    · exact .inl (k3 id B L b (high h1 hB) hL hf)

/-! ### whatever order the tape picks -/

structure Run3 (P : Program) (Γ : Specs) (sy : Nat → Option Nat) (ops : List Oper) (ms : List Nat) (T : Nat → List TV) (Hs : Nat → AH) (vs : Nat → TV) (D : Nat → Dyn) : Prop where
  run : Run P Γ sy ops T Hs vs
  dyn : ∀ (k : Nat) (o : Oper), ops[k]? = some o → D k = dynOf P Γ ops o (T k) (Hs k) ∧ ok3 P Γ ops (ms.getD k 0) ((List.range k).map D) k o (D k) = true ∧ (Hs k).length ≤ (Hs (k + 1)).length

def Pinned (P : Program) (Γ : Specs) (ops : List Oper) (S : Nat → Bool) (e k : Nat) (x : Oper) : Prop := e ≤ k ∧ S k = true ∧ ops[k]? = some x ∧ cls P Γ x.op = .E

structure Inv3 (P : Program) (Γ : Specs) (ops : List Oper) (T : Nat → List TV) (Hs : Nat → AH) (vs : Nat → TV) (φ0 : Phi) (H0 : AH) (w0 : World) (S : Nat → Bool) (e : Nat) (lo hi : Nat → Nat) (a : Act) (w : World) (φ : Phi) (tm : List TV) : Prop where
  le : e ≤ ops.length
  below : ∀ (j : Nat) (x : Oper), j < e → ops[j]? = some x → cls P Γ x.op = .E → S j = true
  rep : Rep φ (Hs e) w.heap
  ext : Ext φ0 H0 w0 φ (Hs e) w
  len : tm.length = (T 0).length
  val : ∀ t, (∀ k x, Pinned P Γ ops S e k x → x.dst ≠ some t) → tm[t]? = valAt ops vs (T 0) S ops.length t
  rel : All2 (relT φ) tm a.tmps.toList
  pin : ∀ k x, Pinned P Γ ops S e k x → Pin w0.heap.size x.dst (Hs k) (Hs (k + 1)) (vs k) φ (Hs e) w.heap a.tmps (lo k) (hi k)
  apart : ∀ k k' x x', Pinned P Γ ops S e k x → Pinned P Γ ops S e k' x' → k ≠ k' → hi k ≤ lo k' ∨ hi k' ≤ lo k
  lone : ∀ k x t, Pinned P Γ ops S e k x → x.dst = some t → ∀ j y, j ≠ k → S j = true → ops[j]? = some y → y.dst = some t → j < k

variable {ops : List Oper} {T : Nat → List TV} {Hs : Nat → AH} {vs : Nat → TV} {φ0 : Phi} {H0 : AH} {w0 : World} {S : Nat → Bool} {lo hi : Nat → Nat}

theorem lastW_is {p : Nat → Bool} {t i n : Nat} {o : Oper} (hi : i < n) (ho : ops[i]? = some o) (hd : o.dst = some t) (hp : p i = true) (h : ∀ j y, i < j → j < n → ops[j]? = some y → y.dst = some t → p j = false) : lastW ops p t n = some i := by
  rw [lastW_skip (i := i + 1) (by omega)]
  · simp only [lastW]
    rw [if_pos]
    exact ⟨hp, by simp [ho, hd]⟩
  · intro j h1 h2 h3
    cases hx : ops[j]? with
    | none => simp [hx] at h3
    | some x =>
      simp only [hx, Option.bind_some] at h3
      exact h j x (by omega) h2 hx h3

theorem Inv3.advance (hr : Run P Γ sy ops T Hs vs) {e : Nat} {a : Act} {w : World} {φ : Phi} {tm : List TV} (h : Inv3 P Γ ops T Hs vs φ0 H0 w0 S e lo hi a w φ tm) {o : Oper} (ho : ops[e]? = some o) (hc : cls P Γ o.op = .E → S e = true) :
    ∃ φ' tm', Inv3 P Γ ops T Hs vs φ0 H0 w0 S (e + 1) lo hi a w φ' tm' := by
  have hlt := lt_of_get ho
  have up : ∀ {k x}, Pinned P Γ ops S (e + 1) k x → Pinned P Γ ops S e k x := fun ⟨h1, h2⟩ => ⟨by omega, h2⟩
  have below' : ∀ (j : Nat) (x : Oper), j < e + 1 → ops[j]? = some x → cls P Γ x.op = .E → S j = true := by
    intro j x hj hx hcx
    rcases Nat.lt_or_ge j e with h1 | h1
    · exact h.below j x h1 hx hcx
    · have : j = e := by omega
      subst this
      rw [ho] at hx; cases hx
      exact hc hcx
  by_cases hcE : cls P Γ o.op = .E
  · have hp : Pinned P Γ ops S e e o := ⟨Nat.le_refl _, hc hcE, ho, hcE⟩
    obtain ⟨ψ, k1, k2, k3⟩ := (h.pin e o hp).adopt h.rep
    have hP := h.pin e o hp
    refine ⟨φ ++ ψ, putT tm o.dst (vs e), ⟨hlt, below', k1, ?_, by rw [putT_length, h.len], ?_, ?_, ?_, ?_, ?_⟩⟩
    · refine ⟨⟨h.ext.size, ?_, h.ext.frame, ?_⟩, h.ext.os, h.ext.output, h.ext.tape⟩
      · obtain ⟨χ, hχ⟩ := h.ext.pre
        exact ⟨χ ++ ψ, by rw [hχ, List.append_assoc]⟩
      · intro id B L b hB hL hf
        rcases k3 id B L b hB hL hf with ⟨e1, _⟩ | ⟨e1, e2, e3⟩
        · exact .inl (by have := hP.hlo; omega)
        · exact h.ext.img id B L b e1 e2 e3
    · intro t ht
      rw [putT_get]
      by_cases hd : o.dst = some t
      · rw [if_pos hd]
        unfold valAt
        rw [lastW_is hlt ho hd (hc hcE) fun j y h1 h2 hy hyd => ?_, h.len]
        cases hS : S j with
        | false => rfl
        | true => have := h.lone e o t hp hd j y (by omega) hS hy hyd; omega
      · rw [if_neg hd]
        refine h.val t fun k x hk => ?_
        by_cases hke : k = e
        · subst hke
          have := hk.2.2.1
          rw [ho] at this; cases this
          exact hd
        · exact ht k x ⟨by have := hk.1; omega, hk.2⟩
    · cases hd : o.dst with
      | none => exact tm_mono ψ h.rel
      | some t =>
        refine All2.of_get (by simp [putT, (tm_mono ψ h.rel).length_eq]) fun j x u hx hu => ?_
        have hm := tm_mono ψ h.rel
        simp only [putT, List.getElem?_set] at hx
        by_cases htj : t = j
        · subst htj
          simp only [if_true] at hx
          split at hx
          · cases hx
            exact unk_rel.2 (k2 t u hd (by simpa using hu))
          · cases hx
        · simp only [htj, if_false] at hx
          obtain ⟨u', g1, g2⟩ := hm.get hx
          rw [hu] at g1; cases g1
          exact g2
    · intro k x hk
      have hne : k ≠ e := by have := hk.1; omega
      have hPk := h.pin k x (up hk)
      refine ⟨hPk.hlo, hPk.hhi, ?_, ?_⟩
      · intro id B L b hB hL h1 h2 hf
        rcases k3 id B L b hB hL hf with ⟨e1, e2⟩ | ⟨e1, e2, e3⟩
        · rcases h.apart k e x o (up hk) hp hne with hh | hh <;> omega
        · exact hPk.free id B L b e1 e2 h1 h2 e3
      · obtain ⟨Bs, hH, hl⟩ := hPk.later
        refine ⟨Bs, hH, fun δ hδ => ?_⟩
        obtain ⟨ψ2, g1, g2, g3⟩ := hl (ψ ++ δ) (by rw [← List.append_assoc]; exact hδ)
        rw [← List.append_assoc] at g1 g2 g3
        exact ⟨ψ2, g1, g2, g3⟩
    · exact fun k k' x x' h1 h2 => h.apart k k' x x' (up h1) (up h2)
    · exact fun k x t h1 => h.lone k x t (up h1)
  · have hH : Hs (e + 1) = Hs e := semOp_keeps (hr.step e o ho).1 hcE
    have dn : ∀ {k x}, Pinned P Γ ops S e k x → Pinned P Γ ops S (e + 1) k x := by
      rintro k x ⟨h1, h2, h3, h4⟩
      refine ⟨?_, h2, h3, h4⟩
      rcases Nat.eq_or_lt_of_le h1 with rfl | h5
      · rw [ho] at h3; cases h3; exact (hcE h4).elim
      · exact h5
    refine ⟨φ, tm, ⟨hlt, below', by rw [hH]; exact h.rep, by rw [hH]; exact h.ext, h.len, fun t ht => h.val t fun k x hk => ht k x (dn hk), h.rel, fun k x hk => by rw [hH]; exact h.pin k x (up hk), fun k k' x x' h1 h2 => h.apart k k' x x' (up h1) (up h2), fun k x t h1 => h.lone k x t (up h1)⟩⟩

theorem Inv3.settle (hr : Run P Γ sy ops T Hs vs) : ∀ (d : Nat) {e : Nat} {a : Act} {w : World} {φ : Phi} {tm : List TV}, ops.length - e ≤ d → Inv3 P Γ ops T Hs vs φ0 H0 w0 S e lo hi a w φ tm →
    ∃ e' φ' tm', Inv3 P Γ ops T Hs vs φ0 H0 w0 S e' lo hi a w φ' tm' ∧ (e' = ops.length ∨ ∃ o, ops[e']? = some o ∧ cls P Γ o.op = .E ∧ S e' = false)
  | 0, e, a, w, φ, tm, hd, h => ⟨e, φ, tm, h, .inl (by have := h.le; omega)⟩
  | d + 1, e, a, w, φ, tm, hd, h => by
    rcases Nat.eq_or_lt_of_le h.le with he | he
    · exact ⟨e, φ, tm, h, .inl he⟩
    · have ho : ops[e]? = some (ops[e]'he) := List.getElem?_eq_getElem he
      by_cases hc : cls P Γ (ops[e]'he).op = .E ∧ S e = false
      · exact ⟨e, φ, tm, h, .inr ⟨_, ho, hc.1, hc.2⟩⟩
      · obtain ⟨φ', tm', h'⟩ := h.advance hr ho fun hE => by
          cases hS : S e with
          | true => rfl
          | false => exact (hc ⟨hE, hS⟩).elim
        exact Inv3.settle hr d (by omega) h'

theorem Inv3.came {e : Nat} {a : Act} {w : World} {φ : Phi} {tm : List TV} (h : Inv3 P Γ ops T Hs vs φ0 H0 w0 S e lo hi a w φ tm) {i : Nat} {o : Oper} (ho : ops[i]? = some o) {S' : Nat → Bool} (hS' : ∀ k, S' k = if k = i then true else S k) {e1 : Nat} (he1 : (e1 = e ∧ cls P Γ o.op ≠ .E) ∨ (e1 = e + 1 ∧ e = i)) {w1 : World} {φ1 : Phi} {u : Value}
    (hrep : Rep φ1 (Hs e1) w1.heap) (hext : Ext φ (Hs e) w φ1 (Hs e1) w1) (hu : relT φ1 (vs i) u)
    (hdst : ∀ t, o.dst = some t → ∀ k x, Pinned P Γ ops S e k x → x.dst ≠ some t) (hbeh : ∀ t, o.dst = some t → ∀ j y, i < j → ops[j]? = some y → y.dst = some t → S j = false) :
    Inv3 P Γ ops T Hs vs φ0 H0 w0 S' e1 lo hi (a.put o.dst u) w1 φ1 (putT tm o.dst (vs i)) := by
  have hi := lt_of_get ho
  have up : ∀ {k x}, Pinned P Γ ops S' e1 k x → Pinned P Γ ops S e k x ∧ k ≠ i := by
    rintro k x ⟨h1, h2, h3, h4⟩
    have hne : k ≠ i := by
      rintro rfl
      rw [ho] at h3; cases h3
      rcases he1 with ⟨rfl, hc⟩ | ⟨rfl, rfl⟩
      · exact hc h4
      · omega
    rw [hS', if_neg hne] at h2
    exact ⟨⟨by rcases he1 with ⟨rfl, _⟩ | ⟨rfl, _⟩ <;> omega, h2, h3, h4⟩, hne⟩
  have dn : ∀ {k x}, Pinned P Γ ops S e k x → k ≠ i → Pinned P Γ ops S' e1 k x := by
    rintro k x ⟨h1, h2, h3, h4⟩ hne
    exact ⟨by rcases he1 with ⟨rfl, _⟩ | ⟨rfl, rfl⟩ <;> omega, by rw [hS', if_neg hne]; exact h2, h3, h4⟩
  have hmono : ∀ k, S k = true → S' k = true := fun k hk => by rw [hS']; split <;> first | rfl | exact hk
  refine ⟨?_, ?_, hrep, h.ext.trans hext, by rw [putT_length, h.len], ?_, ?_, ?_, ?_, ?_⟩
  · rcases he1 with ⟨rfl, _⟩ | ⟨rfl, rfl⟩
    · exact h.le
    · exact hi
  · intro j x hj hx hcx
    by_cases hji : j = i
    · rw [hS', if_pos hji]
    · exact hmono j (h.below j x (by rcases he1 with ⟨rfl, _⟩ | ⟨rfl, rfl⟩ <;> omega) hx hcx)
  · intro t ht
    rw [putT_get]
    by_cases hd : o.dst = some t
    · rw [if_pos hd]
      unfold valAt
      rw [lastW_is hi ho hd (by rw [hS', if_pos rfl]) fun j y h1 h2 hy hyd => ?_, h.len]
      rw [hS', if_neg (by omega)]
      exact hbeh t hd j y h1 hy hyd
    · rw [if_neg hd, h.val t fun k x hk => ?_]
      · unfold valAt
        rw [lastW_congr fun j _ hj => ?_]
        rw [hS', if_neg]
        rintro rfl
        simp only [ho, Option.bind_some] at hj
        exact hd hj
      · by_cases hki : k = i
        · subst hki
          have := hk.2.2.1
          rw [ho] at this; cases this
          exact hd
        · exact ht k x (dn hk hki)
  · obtain ⟨ψ, hψ⟩ := hext.pre
    subst hψ
    exact put_rel (tm_mono ψ h.rel) hu o.dst
  · intro k x hk
    obtain ⟨hk', hne⟩ := up hk
    refine (h.pin k x hk').step hext.toExtH fun t ht => ?_
    cases hd : o.dst with
    | none => rfl
    | some d =>
      have hdt : d ≠ t := by rintro rfl; exact hdst d hd k x hk' ht
      simp only [Act.put]
      rw [Array.getElem?_setIfInBounds_ne hdt]
  · exact fun k k' x x' h1 h2 => h.apart k k' x x' (up h1).1 (up h2).1
  · intro k x t hk hx j y hjk hj hy hyd
    by_cases hji : j = i
    · subst hji
      rw [ho] at hy; cases hy
      exact (hdst t hyd k x (up hk).1 hx).elim
    · rw [hS', if_neg hji] at hj
      exact h.lone k x t (up hk).1 hx j y hjk hj hy hyd

theorem Inv3.ahead {e : Nat} {a : Act} {w : World} {φ : Phi} {tm : List TV} (h : Inv3 P Γ ops T Hs vs φ0 H0 w0 S e lo hi a w φ tm) {i : Nat} {o : Oper} (ho : ops[i]? = some o) (hc : cls P Γ o.op = .E) (hei : e ≤ i) (hiS : S i = false) {S' : Nat → Bool} (hS' : ∀ k, S' k = if k = i then true else S k) {w1 : World} {u : Value}
    (hsz : w.heap.size ≤ w1.heap.size) (hheap : ∀ b, b < w.heap.size → w1.heap[b]? = w.heap[b]?) (hos : w1.os = w.os) (hout : w1.output = w.output) (htape : w1.tape = w.tape)
    (hl : ∃ Bs, Hs (i + 1) = Hs i ++ Bs ∧ ∀ δ : Phi, (φ ++ δ).length = (Hs i).length → ∃ ψ, Rep (φ ++ δ ++ ψ) (List.replicate (Hs i).length none ++ Bs) w1.heap ∧ relT (φ ++ δ ++ ψ) (vs i) u ∧
        ∀ (id : Nat) (B : Blk) (L : Loc) (b : Nat), (List.replicate (Hs i).length (none : Option Blk) ++ Bs)[id]? = some (some B) → (φ ++ δ ++ ψ)[id]? = some L → B.foot (φ ++ δ ++ ψ) L b → w.heap.size ≤ b)
    (hdst : ∀ t, o.dst = some t → ∀ k x, Pinned P Γ ops S e k x → x.dst ≠ some t) (hbeh : ∀ t, o.dst = some t → ∀ j y, i < j → ops[j]? = some y → y.dst = some t → S j = false) :
    Inv3 P Γ ops T Hs vs φ0 H0 w0 S' e (fun k => if k = i then w.heap.size else lo k) (fun k => if k = i then w1.heap.size else hi k) (a.put o.dst u) w1 φ (putT tm o.dst .any) := by
  have hi' := lt_of_get ho
  have up : ∀ {k x}, Pinned P Γ ops S' e k x → k ≠ i → Pinned P Γ ops S e k x := by
    rintro k x ⟨h1, h2, h3, h4⟩ hne
    rw [hS', if_neg hne] at h2
    exact ⟨h1, h2, h3, h4⟩
  have me : Pinned P Γ ops S' e i o := ⟨hei, by rw [hS', if_pos rfl], ho, hc⟩
  have hmono : ∀ k, S k = true → S' k = true := fun k hk => by rw [hS']; split <;> first | rfl | exact hk
  have dn : ∀ {k x}, Pinned P Γ ops S e k x → Pinned P Γ ops S' e k x := fun ⟨h1, h2, h3, h4⟩ => ⟨h1, hmono _ h2, h3, h4⟩
  have hE : ExtH φ (Hs e) w.heap φ (Hs e) w1.heap := ⟨hsz, ⟨[], by simp⟩, fun b hb _ => hheap b hb, fun id B L b h1 h2 h3 => .inr ⟨id, B, L, h1, h2, h3, fun h => h⟩⟩
  refine ⟨h.le, fun j x hj hx hcx => hmono j (h.below j x hj hx hcx), h.rep.of_heap hheap, h.ext.trans ⟨hE, hos, hout, htape⟩, by rw [putT_length, h.len], ?_, ?_, ?_, ?_, ?_⟩
  · intro t ht
    have hd : o.dst ≠ some t := ht i o me
    rw [putT_get, if_neg hd, h.val t fun k x hk => ht k x (dn hk)]
    unfold valAt
    rw [lastW_congr fun j _ hj => ?_]
    rw [hS', if_neg]
    rintro rfl
    simp only [ho, Option.bind_some] at hj
    exact hd hj
  · exact put_rel h.rel (show relT φ .any u from trivial) o.dst
  · intro k x hk
    by_cases hki : k = i
    · subst hki
      have := hk.2.2.1
      rw [ho] at this; cases this
      simp only [if_true]
      refine ⟨h.ext.size, Nat.le_refl _, ?_, ?_⟩
      · intro id B L b hB hL h1 h2 hf
        obtain ⟨L', g1, g2⟩ := h.rep.blk id B hB
        rw [hL] at g1; cases g1
        have := g2.lt hf
        omega
      · obtain ⟨Bs, hH, hl⟩ := hl
        refine ⟨Bs, hH, fun δ hδ => ?_⟩
        obtain ⟨ψ, k1, k2, k3⟩ := hl δ hδ
        refine ⟨ψ, k1, fun t v hd hv => ?_, fun id B L b hB hL hf => ⟨k3 id B L b hB hL hf, ?_⟩⟩
        · rw [hd] at hv
          simp only [Act.put, Array.getElem?_setIfInBounds] at hv
          split at hv
          · split at hv
            · cases hv; exact k2
            · cases hv
          · rename_i hh; exact (hh trivial).elim
        · obtain ⟨L', g1, g2⟩ := k1.blk id B hB
          rw [hL] at g1; cases g1
          exact g2.lt hf
    · simp only [hki, if_false]
      refine (h.pin k x (up hk hki)).step hE fun t ht => ?_
      cases hd : o.dst with
      | none => rfl
      | some d =>
        have hdt : d ≠ t := by rintro rfl; exact hdst d hd k x (up hk hki) ht
        simp only [Act.put]
        rw [Array.getElem?_setIfInBounds_ne hdt]
  · intro k k' x x' hk hk' hne
    by_cases h1 : k = i
    · subst h1
      have h2 : k' ≠ k := fun e => hne e.symm
      simp only [h2, if_true, if_false]
      right
      exact (h.pin k' x' (up hk' h2)).hhi
    · by_cases h2 : k' = i
      · subst h2
        simp only [h1, if_true, if_false]
        left
        exact (h.pin k x (up hk h1)).hhi
      · simp only [h1, h2, if_false]
        exact h.apart k k' x x' (up hk h1) (up hk' h2) hne
  · intro k x t hk hx j y hjk hj hy hyd
    by_cases hki : k = i
    · subst hki
      have := hk.2.2.1
      rw [ho] at this; cases this
      rw [hS', if_neg hjk] at hj
      rcases Nat.lt_or_ge j k with h1 | h1
      · exact h1
      · have := hbeh t hx j y (by omega) hy hyd
        rw [this] at hj; cases hj
    · by_cases hji : j = i
      · subst hji
        rw [ho] at hy; cases hy
        exact (hdst t hyd k x (up hk hki) hx).elim
      · rw [hS', if_neg hji] at hj
        exact h.lone k x t (up hk hki) hx j y hjk hj hy hyd

variable {D : Nat → Dyn}

theorem dyn_get {n i : Nat} (h : i < n) : ((List.range n).map D)[i]? = some (D i) := by simp [h]

theorem late3_spec {P : Program} {Γ : Specs} {ops : List Oper} {m k i : Nat} {o x : Oper} (hk : ok3 P Γ ops m ((List.range k).map D) k o (D k) = true) (hc : cls P Γ o.op = .E) (hn : isMakeO o = false) (hi : i < k) (hx : ops[i]? = some x) (hcx : cls P Γ x.op = .R) (hb : m.testBit i = false) : late3 (D i) (D k) = true := by
  unfold ok3 at hk
  rw [hc, hn] at hk
  have h1 := allBelow_spec hk i hi
  simp only [hb, Bool.false_or, clsAt, hx, hcx, dyn_get hi] at h1
  exact h1

theorem early3_spec {P : Program} {Γ : Specs} {ops : List Oper} {m k i : Nat} {o x : Oper} (hk : ok3 P Γ ops m ((List.range k).map D) k o (D k) = true) (hc : cls P Γ o.op = .R) (hi : i < k) (hx : ops[i]? = some x) (hcx : cls P Γ x.op = .E) (hb : m.testBit i = false) : early3 (D i) (D k) = true := by
  unfold ok3 at hk
  rw [hc] at hk
  have h1 := allBelow_spec hk i hi
  simp only [hb, Bool.false_or, clsAt, hx, hcx, dyn_get hi] at h1
  exact h1

theorem blk_app {H : AH} {Bs : AH} {id : Nat} (h : id < H.length) : blk (H ++ Bs) id = blk H id := by
  unfold blk
  rw [List.getElem?_append_left h]

theorem Run3.leaves {ms : List Nat} (hM : ∀ f, MonoS (Γ f)) (hr : Run3 P Γ sy ops ms T Hs vs D) {k : Nat} {o : Oper} (ho : ops[k]? = some o) (hc : cls P Γ o.op = .E) {id : Nat} (ht : (D k).sk = true ∨ ∃ l, (D k).tou = some l ∧ id ∉ l) (hlen : id < (Hs k).length) : blk (Hs (k + 1)) id = blk (Hs k) id := by
  have hs := (hr.run.step k o ho).1
  have hd := (hr.dyn k o ho).1
  rcases ht with ht | ⟨l, ht, hid⟩
  · rw [hd] at ht
    rw [(semOp_skip (H := Hs k) hs ht).2]
  cases hm : isMakeO o with
  | true =>
    obtain ⟨Bs, hB, _⟩ := semOp_make hm hs
    rw [hB, blk_app hlen]
  | false =>
    rw [hd] at ht
    simp only [dynOf, hm, hc] at ht
    exact semOp_touched3 hM hs hc ht hlen hid

theorem Run3.mono {ms : List Nat} (hr : Run3 P Γ sy ops ms T Hs vs D) : ∀ (d : Nat) {i : Nat}, i + d ≤ ops.length → (Hs i).length ≤ (Hs (i + d)).length
  | 0, i, _ => Nat.le_refl _
  | d + 1, i, h => by
    have h1 := Run3.mono hr d (i := i) (by omega)
    have ho : ops[i + d]? = some (ops[i + d]'(by omega)) := List.getElem?_eq_getElem (by omega)
    exact Nat.le_trans h1 (hr.dyn _ _ ho).2.2

theorem late3_elim {x y : Dyn} (h : late3 x y = true) (hk : x.sk = false) : ∃ id, x.ad = some id ∧ (y.sk = true ∨ ∃ l, y.tou = some l ∧ id ∉ l) := by
  unfold late3 at h
  simp only [hk] at h
  split at h
  · rename_i id h1
    split at h
    · rename_i h2
      exact ⟨id, h1, .inl h2⟩
    · split at h
      · rename_i l h2
        exact ⟨id, h1, .inr ⟨l, h2, by simpa using h⟩⟩
      · cases h
  · cases h

theorem early3_elim {x y : Dyn} (h : early3 x y = true) (hk : y.sk = false) : ∃ id, y.ad = some id ∧ (x.sk = true ∨ ∃ l, x.tou = some l ∧ id ∉ l) ∧ id < x.len := by
  unfold early3 at h
  simp only [hk] at h
  split at h
  · rename_i id h1
    simp only [Bool.and_eq_true, Nat.blt_eq] at h
    obtain ⟨h0, h⟩ := h
    split at h
    · rename_i h2
      exact ⟨id, h1, .inl h2, h0⟩
    · split at h
      · rename_i l h2
        exact ⟨id, h1, .inr ⟨l, h2, by simpa using h⟩, h0⟩
      · cases h
  · cases h

theorem Run3.read (hΓ : SpecOK P Γ) (hok : orderOk3 P Γ ops = true) (hr : Run3 P Γ sy ops (masks ops []) T Hs vs D) (hcl : ∀ (k : Nat) (o : Oper), ops[k]? = some o → S k = true → ∀ e ∈ o.after.toList, Region.binds .any e = true → S e.on = true)
    {e : Nat} (hle : e ≤ ops.length) (hbelow : ∀ (j : Nat) (x : Oper), j < e → ops[j]? = some x → cls P Γ x.op = .E → S j = true) (hout : e = ops.length ∨ ∃ o, ops[e]? = some o ∧ cls P Γ o.op = .E ∧ S e = false)
    {i : Nat} {o : Oper} (ho : ops[i]? = some o) (hc : cls P Γ o.op = .R) (hiS : S i = false) (hrdy : ∀ e ∈ o.after.toList, Region.binds .any e = true → S e.on = true) :
    semOp P Γ sy ops (T i) (Hs e) o = some (vs i, Hs e) := by
  have hE := (by simpa only [orderOk3, Bool.and_eq_true] using hok : edgesOk 0 ops = true ∧ _).1
  have hM : ∀ f, MonoS (Γ f) := fun f => by
    rcases hΓ f with h0 | ⟨_, _, hm⟩
    · rw [h0]; trivial
    · exact hm
  have hs := (hr.run.step i o ho).1
  have hHi : Hs (i + 1) = Hs i := semOp_keeps hs (by rw [hc]; simp)
  rw [hHi] at hs
  have hil := lt_of_get ho
  have hDi := (hr.dyn i o ho).1
  cases hsk : (D i).sk with
  | true =>
    rw [hDi] at hsk
    exact (semOp_skip hs hsk).1
  | false =>
  have hsk2 : skips ops (T i) o = false := by rw [hDi] at hsk; exact hsk
  -- a plain load of a block that stands as it stood
  have load : ∀ {a id : Nat}, plainLoad o = some a → addrId (evalT (T i) (.tmp a)) = some id → blk (Hs e) id = blk (Hs i) id → semOp P Γ sy ops (T i) (Hs e) o = some (vs i, Hs e) := by
    intro a id hp ha hb
    obtain ⟨t, h1⟩ := plainLoad_spec hp
    exact semOp_load3 hs h1 ha hb
  have adOf : ∀ {id : Nat}, (D i).ad = some id → ∃ a, plainLoad o = some a ∧ addrId (evalT (T i) (.tmp a)) = some id := by
    intro id h
    rw [hDi] at h
    simp only [dynOf] at h
    split at h
    · rename_i a ha
      exact ⟨a, ha, h⟩
    · cases h
  rcases Nat.lt_or_ge i e with hie | hie
  · -- behind: the operations from 'i' up to 'e' that may turn the memory have all come up
    have un : ∀ (m : Nat) (y : Oper), i < m → m < e → ops[m]? = some y → cls P Γ y.op = .E → ((masks ops []).getD m 0).testBit i = false := by
      intro m y h1 h2 hy hcy
      cases hb : ((masks ops []).getD m 0).testBit i with
      | false => rfl
      | true =>
        have := bit_listed hE hcl hy (hcl m y hy (hbelow m y h2 hy hcy)) hb
        rw [hiS] at this; cases this
    by_cases hall : ∀ (m : Nat) (y : Oper), i < m → m < e → ops[m]? = some y → cls P Γ y.op = .E → isMakeO y = true
    · have go : ∀ d, i + 1 + d ≤ e → ∃ Bs, Hs (i + 1 + d) = Hs i ++ Bs := by
        intro d
        induction d with
        | zero => intro _; exact ⟨[], by simpa using hHi⟩
        | succ d ih =>
          intro hd
          obtain ⟨Bs, hBs⟩ := ih (by omega)
          have hy : ops[i + 1 + d]? = some (ops[i + 1 + d]'(by omega)) := List.getElem?_eq_getElem (by omega)
          by_cases hcy : cls P Γ (ops[i + 1 + d]'(by omega)).op = .E
          · obtain ⟨Cs, hC, _⟩ := semOp_make (hall _ _ (by omega) (by omega) hy hcy) (hr.run.step _ _ hy).1
            exact ⟨Bs ++ Cs, by rw [show i + 1 + (d + 1) = i + 1 + d + 1 by omega, hC, hBs, List.append_assoc]⟩
          · exact ⟨Bs, by rw [show i + 1 + (d + 1) = i + 1 + d + 1 by omega, semOp_keeps (hr.run.step _ _ hy).1 hcy, hBs]⟩
      obtain ⟨Bs, hBs⟩ := go (e - (i + 1)) (by omega)
      rw [show i + 1 + (e - (i + 1)) = e by omega] at hBs
      obtain ⟨H', g1, _, g3⟩ := semOp_congr (H := Hs e) hs (fun _ _ => rfl) hM (fun hE' => by rw [hc] at hE'; cases hE') (fun _ => ⟨Bs, hBs⟩)
      rw [g3 (by rw [hc]; simp)] at g1
      exact g1
    · simp only [Classical.not_forall] at hall
      obtain ⟨m, y, h1, h2, hy, hcy, hmk⟩ := hall
      have hmk : isMakeO y = false := by simpa using hmk
      obtain ⟨id, g1, _⟩ := late3_elim (late3_spec (hr.dyn m y hy).2.1 hcy hmk h1 ho hc (un m y h1 h2 hy hcy)) hsk
      obtain ⟨a, ha1, ha2⟩ := adOf g1
      obtain ⟨t, q1⟩ := plainLoad_spec ha1
      obtain ⟨b, hb⟩ := semOp_loads3 hs q1 hsk2 ha2
      have hid : id < (Hs i).length := by
        unfold blk at hb
        rcases Nat.lt_or_ge id (Hs i).length with h' | h'
        · exact h'
        · simp [List.getElem?_eq_none h'] at hb
      refine load ha1 ha2 ?_
      have go : ∀ d, i + 1 + d ≤ e → blk (Hs (i + 1 + d)) id = blk (Hs i) id := by
        intro d
        induction d with
        | zero => intro _; rw [Nat.add_zero, hHi]
        | succ d ih =>
          intro hd
          have hy' : ops[i + 1 + d]? = some (ops[i + 1 + d]'(by omega)) := List.getElem?_eq_getElem (by omega)
          rw [show i + 1 + (d + 1) = i + 1 + d + 1 by omega, ← ih (by omega)]
          by_cases hcy' : cls P Γ (ops[i + 1 + d]'(by omega)).op = .E
          · have hlen : id < (Hs (i + 1 + d)).length := by
              have := hr.mono (1 + d) (i := i) (by omega)
              rw [show i + (1 + d) = i + 1 + d by omega] at this
              omega
            cases hmk' : isMakeO (ops[i + 1 + d]'(by omega)) with
            | true =>
              obtain ⟨Cs, hC, _⟩ := semOp_make hmk' (hr.run.step _ _ hy').1
              rw [hC, blk_app hlen]
            | false =>
              obtain ⟨id', k1, k2⟩ := late3_elim (late3_spec (hr.dyn _ _ hy').2.1 hcy' hmk' (by omega) ho hc (un _ _ (by omega) (by omega) hy' hcy')) hsk
              rw [g1] at k1; cases k1
              exact hr.leaves hM hy' hcy' k2 hlen
          · rw [semOp_keeps (hr.run.step _ _ hy').1 hcy']
      have := go (e - (i + 1)) (by omega)
      rwa [show i + 1 + (e - (i + 1)) = e by omega] at this
  · -- ahead
    rcases hout with hout | ⟨x, hx, hcx, hxS⟩
    · omega
    have hei : e < i := by
      rcases Nat.eq_or_lt_of_le hie with h1 | h1
      · subst h1
        rw [ho] at hx; cases hx
        rw [hc] at hcx; cases hcx
      · exact h1
    have bitOf : ∀ {m : Nat}, ((masks ops []).getD i 0).testBit m = true → S m = true := fun hb => bit_listed hE hcl ho hrdy hb
    have hbe : ((masks ops []).getD i 0).testBit e = false := by
      cases hb : ((masks ops []).getD i 0).testBit e with
      | false => rfl
      | true => have := bitOf hb; rw [hxS] at this; cases this
    obtain ⟨id, g1, _, g4⟩ := early3_elim (early3_spec (hr.dyn i o ho).2.1 hc hei hx hcx hbe) hsk
    obtain ⟨a, ha1, ha2⟩ := adOf g1
    refine load ha1 ha2 ?_
    have hid : id < (Hs e).length := by
      have := (hr.dyn e x hx).1
      rw [this] at g4
      exact g4
    have go : ∀ d, e + d ≤ i → blk (Hs (e + d)) id = blk (Hs e) id := by
      intro d
      induction d with
      | zero => intro _; rfl
      | succ d ih =>
        intro hd
        have hy' : ops[e + d]? = some (ops[e + d]'(by omega)) := List.getElem?_eq_getElem (by omega)
        rw [show e + (d + 1) = e + d + 1 by omega, ← ih (by omega)]
        by_cases hcy' : cls P Γ (ops[e + d]'(by omega)).op = .E
        · have hlen : id < (Hs (e + d)).length := by
            have := hr.mono d (i := e) (by omega)
            omega
          cases hb : ((masks ops []).getD i 0).testBit (e + d) with
          | true =>
            have hSm := bitOf hb
            have hne : e < e + d := by
              rcases Nat.eq_zero_or_pos d with h0 | h0
              · subst h0; rw [Nat.add_zero] at hSm; rw [hxS] at hSm; cases hSm
              · omega
            cases hmk' : isMakeO (ops[e + d]'(by omega)) with
            | true =>
              obtain ⟨Cs, hC, _⟩ := semOp_make hmk' (hr.run.step _ _ hy').1
              rw [hC, blk_app hlen]
            | false =>
              have := bit_listed hE hcl hy' (hcl _ _ hy' hSm) (meets3_bit hok hne hx hy' (meets3_EE hcx hcy' hmk'))
              rw [hxS] at this; cases this
          | false =>
            obtain ⟨id', k1, k2, _⟩ := early3_elim (early3_spec (hr.dyn i o ho).2.1 hc (by omega) hy' hcy' hb) hsk
            rw [g1] at k1; cases k1
            exact hr.leaves hM hy' hcy' k2 hlen
        · rw [semOp_keeps (hr.run.step _ _ hy').1 hcy']
    have := go (i - e) (by omega)
    rw [show e + (i - e) = i by omega] at this
    exact this.symm
end

section
variable {P : Program} {Γ : Specs} {sy : Nat → Option Nat}

theorem wpAny_run3 (hΓ : SpecOK P Γ) {ops : Array Oper} {Q : Exit → Act → World → Prop} (hok : orderOk3 P Γ ops.toList = true) {T : Nat → List TV} {Hs : Nat → AH} {vs : Nat → TV} {D : Nat → Dyn} (hr : Run3 P Γ sy ops.toList (masks ops.toList []) T Hs vs D) {φ0 : Phi} {H0 : AH} {w0 : World}
    (hQ : ∀ φ' w' a', Rep φ' (Hs ops.size) w'.heap → All2 (relT φ') (T ops.size) a'.tmps.toList → a'.defers = [] → Ext φ0 H0 w0 φ' (Hs ops.size) w' → Q .normal a' w') :
    ∀ (fuel : Nat) (listed : Array Bool) (a : Act) (w : World) (φ : Phi) (tm : List TV) (e : Nat) (lo hi : Nat → Nat),
      listed.size = ops.size → listed.toList.countP (· == false) ≤ fuel →
      (∀ (k : Nat) (o : Oper), ops.toList[k]? = some o → listed.getD k false = true → ∀ e ∈ o.after.toList, Region.binds .any e = true → listed.getD e.on false = true) →
      Inv3 P Γ ops.toList T Hs vs φ0 H0 w0 (fun k => listed.getD k false) e lo hi a w φ tm → a.defers = [] →
      wpAny P .any ops Q fuel listed a w := by
  have hE := (by simpa only [orderOk3, Bool.and_eq_true] using hok : edgesOk 0 ops.toList = true ∧ _).1
  have hM : ∀ f, MonoS (Γ f) := fun f => by
    rcases hΓ f with h0 | ⟨_, _, hm⟩
    · rw [h0]; trivial
    · exact hm
  have hsize : ops.toList.length = ops.size := by simp
  -- when nothing may come up, all have
  have alldone : ∀ (listed : Array Bool), listed.size = ops.size → Region.ready .any ops listed = [] → ∀ k, k < ops.size → listed.getD k false = true := by
    intro listed hsz hnone k
    induction k using Nat.strongRecOn with
    | _ k ih =>
      intro hk
      cases hl : listed.getD k false with
      | true => rfl
      | false =>
        exfalso
        have hmem : k ∈ Region.ready .any ops listed := by
          refine mem_ready.2 ⟨?_, ops[k], Array.getElem?_eq_getElem hk, ?_⟩
          · simp [hsz, hk] at hl ⊢; exact hl
          · intro e he hb
            have hlt := edgesOk_spec hE k ops[k] (by simp [hk]) e (by simpa using he) hb
            exact ih e.on (by omega) (by omega)
        rw [hnone] at hmem
        cases hmem
  have fin : ∀ (listed : Array Bool) (a : Act) (w : World) (φ : Phi) (tm : List TV) (e : Nat) (lo hi : Nat → Nat), listed.size = ops.size → Region.ready .any ops listed = [] → Inv3 P Γ ops.toList T Hs vs φ0 H0 w0 (fun k => listed.getD k false) e lo hi a w φ tm → a.defers = [] → Q .normal a w := by
    intro listed a w φ tm e lo hi hsz hnone hI hd
    have hall := alldone listed hsz hnone
    obtain ⟨e', φ', tm', hI', hout⟩ := hI.settle hr.run (ops.toList.length - e) (Nat.le_refl _)
    have he : e' = ops.size := by
      rcases hout with h | ⟨o, ho, _, hS⟩
      · rw [h, hsize]
      · have := lt_of_get ho
        simp only [hall e' (by omega)] at hS
        cases hS
    subst he
    have e1 : tm' = T ops.size := by
      apply List.ext_getElem?
      intro t
      rw [hI'.val t fun k x hk => ?_, hr.run.val ops.size (by simp) t]
      · unfold valAt
        rw [hsize, lastW_congr fun j hj _ => hall j hj]
      · have h1 := lt_of_get hk.2.2.1
        have h2 := hk.1
        omega
    subst e1
    exact hQ φ' w a hI'.rep hI'.rel hd hI'.ext
  intro fuel
  induction fuel with
  | zero =>
    intro listed a w φ tm e lo hi hsz hcnt hcl hI hd
    have hnone : Region.ready .any ops listed = [] := by
      cases hrd : Region.ready .any ops listed with
      | nil => rfl
      | cons i rest =>
        exfalso
        have hi : i ∈ Region.ready .any ops listed := by rw [hrd]; simp
        obtain ⟨hun, oi, hoi, _⟩ := mem_ready.1 hi
        have hlt : i < listed.size := by
          rcases Nat.lt_or_ge i listed.size with h' | h'
          · exact h'
          · simp [Array.getElem?_eq_none h'] at hun
        have hpos : 0 < listed.toList.countP (· == false) := by
          refine List.countP_pos_iff.2 ⟨listed[i], by simp, ?_⟩
          simp [hlt] at hun ⊢; exact hun
        omega
    exact ⟨hnone, fin listed a w φ tm e lo hi hsz hnone hI hd⟩
  | succ fuel ih =>
    intro listed a w φ tm e lo hi hsz hcnt hcl hI hd
    refine ⟨fun hnone => fin listed a w φ tm e lo hi hsz hnone hI hd, fun i hi' => ?_⟩
    obtain ⟨e', φ', tm', hI', hout⟩ := hI.settle hr.run (ops.toList.length - e) (Nat.le_refl _)
    clear hI
    obtain ⟨hun, o, ho, hready⟩ := mem_ready.1 hi'
    have hol : ops.toList[i]? = some o := by simpa using ho
    have hin : i < ops.size := by
      rcases Nat.lt_or_ge i ops.size with h' | h'
      · exact h'
      · simp [Array.getElem?_eq_none h'] at ho
    have hil : i < listed.size := by omega
    have hiS : listed.getD i false = false := by simp [hil] at hun ⊢; exact hun
    have hrdy : ∀ e ∈ o.after.toList, Region.binds .any e = true → listed.getD e.on false = true := fun e he hb => hready e (by simpa using he) hb
    have bitI : ∀ {m : Nat}, ((masks ops.toList []).getD i 0).testBit m = true → listed.getD m false = true := fun hb => bit_listed hE (S := fun k => listed.getD k false) hcl hol hrdy hb
    have bitK : ∀ {k m : Nat} {x : Oper}, ops.toList[k]? = some x → listed.getD k false = true → ((masks ops.toList []).getD k 0).testBit m = true → listed.getD m false = true := fun hx hk hb => bit_listed hE (S := fun k => listed.getD k false) hcl hx (hcl _ _ hx hk) hb
    -- no slot that this one looks at, or writes, is one of what was made ahead
    have free : ∀ t, (t ∈ looks ops.toList o ∨ o.dst = some t) → ∀ k x, Pinned P Γ ops.toList (fun k => listed.getD k false) e' k x → x.dst ≠ some t := by
      intro t ht k x hk hx
      obtain ⟨h1, h2, h3, h4⟩ := hk
      rcases hout with hout | ⟨xe, hxe, hce, hSe⟩
      · have := lt_of_get h3; omega
      have hek : e' < k := by
        rcases Nat.eq_or_lt_of_le h1 with h5 | h5
        · subst h5; simp only [hSe] at h2; cases h2
        · exact h5
      have hbk : ((masks ops.toList []).getD k 0).testBit e' = false := by
        cases hb : ((masks ops.toList []).getD k 0).testBit e' with
        | false => rfl
        | true => have := bitK h3 h2 hb; simp only [hSe] at this; cases this
      rcases Nat.lt_trichotomy k i with h6 | h6 | h6
      · have := bitI (pin_bit hok hek h6 hxe h3 hol hce h4 hx ht hbk)
        simp only [hSe] at this; cases this
      · subst h6; simp only [hiS] at h2; cases h2
      · have hm : meets3 (infoOf3 P Γ ops.toList o) (infoOf3 P Γ ops.toList x) = true := by
          rcases ht with ht | ht
          · exact meets3_look_dst hx ht
          · exact meets3_dst_dst ht hx
        have := bitK h3 h2 (meets3_bit hok h6 hol h3 hm)
        rw [hiS] at this; cases this
    have hbeh : ∀ t, o.dst = some t → ∀ j y, i < j → ops.toList[j]? = some y → y.dst = some t → listed.getD j false = false := by
      intro t ht j y hij hy hyd
      cases hl : listed.getD j false with
      | false => rfl
      | true =>
        have := bitK hy hl (meets3_bit hok hij hol hy (meets3_dst_dst ht hyd))
        rw [hiS] at this; cases this
    -- what 'i' looks at is what it looks at in the order of the text
    have hlook : ∀ t ∈ looks ops.toList o, (T i)[t]? = tm'[t]? := by
      intro t ht
      rw [hI'.val t (free t (.inl ht)), hr.run.val i (by simp; omega) t]
      unfold valAt
      have e1 : lastW ops.toList (fun k => listed.getD k false) t ops.toList.length = lastW ops.toList (fun k => listed.getD k false) t i := by
        refine lastW_skip (by omega) fun j h1 h2 h3 => ?_
        cases hx : ops.toList[j]? with
        | none => simp [hx] at h3
        | some x =>
          simp only [hx, Option.bind_some] at h3
          rcases Nat.eq_or_lt_of_le h1 with rfl | hlt
          · exact hiS
          · cases hl : listed.getD j false with
            | false => rfl
            | true =>
              have := bitK hx hl (meets3_bit hok hlt hol hx (meets3_look_dst h3 ht))
              rw [hiS] at this; cases this
      have e2 : lastW ops.toList (fun k => listed.getD k false) t i = lastW ops.toList (fun _ => true) t i := by
        refine lastW_congr fun j h1 h3 => ?_
        cases hx : ops.toList[j]? with
        | none => simp [hx] at h3
        | some x =>
          simp only [hx, Option.bind_some] at h3
          exact bitI (meets3_bit hok h1 hx hol (meets3_dst_look h3 ht))
      rw [e1, e2]
    have hdst : ∀ t, o.dst = some t → ∀ k x, Pinned P Γ ops.toList (fun k => listed.getD k false) e' k x → x.dst ≠ some t := fun t ht => free t (.inr ht)
    have hlistget : ∀ k, (listed.setIfInBounds i true).getD k false = if k = i then true else listed.getD k false := by
      intro k
      by_cases e : k = i
      · subst e; simp [hil]
      · rw [if_neg e]; exact getD_set_ne false (fun e' => e e'.symm)
    have hcnt' : (listed.setIfInBounds i true).toList.countP (· == false) ≤ fuel := by
      have hcs := List.countP_set (p := (· == false)) (l := listed.toList) (i := i) (a := true) (by simpa using hil)
      have hli : listed.toList[i]'(by simpa using hil) = false := by simp [hil] at hun ⊢; exact hun
      have h1 : (if (listed.toList[i]'(by simpa using hil) == false) = true then 1 else 0) = 1 := by rw [hli]; rfl
      have h2 : (if (true == false) = true then 1 else 0) = 0 := rfl
      rw [Array.toList_setIfInBounds, hcs, h1, h2]
      omega
    have hcl' : ∀ (k : Nat) (o : Oper), ops.toList[k]? = some o → (listed.setIfInBounds i true).getD k false = true → ∀ e ∈ o.after.toList, Region.binds .any e = true → (listed.setIfInBounds i true).getD e.on false = true := by
      intro k x hx hk e he hb
      rw [hlistget] at hk ⊢
      by_cases e1 : k = i
      · subst e1
        rw [hol] at hx; cases hx
        split
        · rfl
        · exact hrdy e he hb
      · rw [if_neg e1] at hk
        split
        · rfl
        · exact hcl k x hx hk e he hb
    have hdef : ∀ v, (a.put o.dst v).defers = [] := fun v => by cases o.dst <;> exact hd
    have hsi := (hr.run.step i o hol).1
    -- an operation in its turn
    have inTurn : ∀ {e1 : Nat}, ((e1 = e' ∧ cls P Γ o.op ≠ .E) ∨ (e1 = e' + 1 ∧ e' = i)) → semOp P Γ sy ops.toList tm' (Hs e') o = some (vs i, Hs e1) → wpOp P ops Q i (wpAny P .any ops Q fuel (listed.setIfInBounds i true)) a w := by
      intro e1 he1 hsem
      refine wpOp_sound hΓ ho hsem hI'.rep hI'.rel fun φ1 w1 v g1 g2 g3 => ?_
      exact ih (listed.setIfInBounds i true) _ w1 φ1 _ e1 lo hi (by simp [hsz]) hcnt' hcl' (hI'.came hol hlistget he1 g2 g3 g1 hdst hbeh) (hdef v)
    by_cases hcE : cls P Γ o.op = .E
    · have hei : e' ≤ i := by
        rcases Nat.lt_or_ge i e' with h1 | h1
        · have := hI'.below i o h1 hol hcE
          simp only [hiS] at this; cases this
        · exact h1
      rcases Nat.eq_or_lt_of_le hei with h1 | h1
      · subst h1
        obtain ⟨H', g1, g2, _⟩ := semOp_congr (H := Hs e') hsi hlook hM (fun _ => rfl) (fun _ => ⟨[], by simp⟩)
        rw [g2 hcE] at g1
        exact inTurn (.inr ⟨rfl, rfl⟩) g1
      · rcases hout with hout | ⟨xe, hxe, hce, hSe⟩
        · omega
        have hmk : isMakeO o = true := by
          cases hm : isMakeO o with
          | true => rfl
          | false =>
            have := bitI (meets3_bit hok h1 hxe hol (meets3_EE hce hcE hm))
            simp only [hSe] at this; cases this
        obtain ⟨H', g1, g2, _⟩ := semOp_congr (H := Hs i) hsi hlook hM (fun _ => rfl) (fun _ => ⟨[], by simp⟩)
        rw [g2 hcE] at g1
        have hle : φ'.length ≤ (Hs i).length := by
          rw [hI'.rep.len]
          have := hr.mono (i - e') (i := e') (by omega)
          rwa [show e' + (i - e') = i by omega] at this
        refine wpOp_make hΓ ho hmk g1 hI'.rel hle fun w1 u k1 k2 k3 k4 k5 k6 => ?_
        exact ih (listed.setIfInBounds i true) _ w1 φ' _ e' _ _ (by simp [hsz]) hcnt' hcl' (hI'.ahead hol hcE hei hiS hlistget k1 k2 k3 k4 k5 k6 hdst hbeh) (hdef u)
    · have hsem : semOp P Γ sy ops.toList (T i) (Hs e') o = some (vs i, Hs e') := by
        by_cases hcR : cls P Γ o.op = .R
        · exact hr.read hΓ hok hcl hI'.le hI'.below hout hol hcR hiS hrdy
        · obtain ⟨H', g1, _, g3⟩ := semOp_congr (H := Hs e') hsi (fun _ _ => rfl) hM (fun h => (hcE h).elim) (fun h => (hcR h).elim)
          rw [g3 hcE] at g1
          exact g1
      obtain ⟨H', g1, _, g3⟩ := semOp_congr (H := Hs e') hsem hlook hM (fun _ => rfl) (fun _ => ⟨[], by simp⟩)
      rw [g3 hcE] at g1
      exact inTurn (.inl ⟨rfl, hcE⟩) g1

theorem wp_region_pins (hΓ : SpecOK P Γ) (hm : P.follows .mixedOrders = true) {id : Nat} {ops : Array Oper} {Q : Exit → Act → World → Prop} {a : Act} {w : World} {φ : Phi} {tm : List TV} {H : AH} {s : ASt}
    (hd : orderOk3 P Γ ops.toList = true) (hc : chain3 P Γ sy ops.toList (masks ops.toList []) 0 [] ops.toList tm H = some s) (hrep : Rep φ H w.heap) (hrel : All2 (relT φ) tm a.tmps.toList) (hdef : a.defers = [])
    (hQ : ∀ φ' w' a', Rep φ' s.hp w'.heap → All2 (relT φ') s.tm a'.tmps.toList → a'.defers = [] → Ext φ H w φ' s.hp w' → Q .normal a' w') : (Code.region id ops true).wp P Q a w := by
  refine wp_region_any hm ?_
  obtain ⟨T, Hs, vs, D, h1, h2, h3, h4, h5⟩ := run_of_chain3 hc
  have hlen : ops.toList.length = ops.size := by simp
  rw [hlen] at h3 h4
  have hfalse : ∀ k, (Array.replicate ops.size false).getD k false = false := by
    intro k
    by_cases hk : k < ops.size <;> simp [hk]
  have nopin : ∀ {k x}, ¬ Pinned P Γ ops.toList (fun k => (Array.replicate ops.size false).getD k false) 0 k x := by
    rintro k x ⟨_, h, _⟩
    simp only [hfalse] at h
    cases h
  refine wpAny_run3 (sy := sy) (φ0 := φ) (H0 := H) (w0 := { w with drawn := w.drawn + 1 }) hΓ hd (D := D) ⟨⟨fun k o hk => (h5 k o hk).2.2.2⟩, fun k o hk => ?_⟩ ?_ ops.size (Array.replicate ops.size false) a { w with drawn := w.drawn + 1 } φ tm 0 (fun _ => 0) (fun _ => 0) (by simp) ?_ ?_ ?_ hdef
  · obtain ⟨g1, g2, g3, _⟩ := h5 k o hk
    refine ⟨g1, ?_, g3⟩
    simpa using g2
  · intro φ' w' a' g1 g2 g3 g4
    rw [h4] at g1 g4
    rw [h3] at g2
    exact hQ φ' w' a' g1 g2 g3 g4.drew
  · exact Nat.le_trans List.countP_le_length (by simp)
  · intro k o _ hk
    rw [hfalse] at hk; cases hk
  · refine ⟨Nat.zero_le _, fun j x hj => absurd hj (Nat.not_lt_zero j), by rw [h2]; exact hrep, by rw [h2]; exact Ext.refl _ _ _, by rw [h1], ?_, hrel, fun k x hk => (nopin hk).elim, fun k k' x x' hk => (nopin hk).elim, fun k x t hk => (nopin hk).elim⟩
    intro t _
    unfold valAt
    have e1 : lastW ops.toList (fun k => (Array.replicate ops.size false).getD k false) t ops.toList.length = none := by
      rw [lastW_skip (i := 0) (by omega) fun j _ _ _ => hfalse j]
      rfl
    rw [e1, h1]
end
end Go.AM
end

/-
  The abstract machine, part 11b: the ways of a region that turns no memory, laid together.
-/
section
namespace Go.AM

def mrgT (c : Bool) (x y : TV) : TV :=
  match unk x, unk y with
  | .v (.s (.b p)), .v (.s (.b q)) => tvb (cond c p q)
  | .v (.s (.n k p)), .v (.s (.n k' q)) => if k = k' then tvn k (cond c p q) else .any
  | .v (.s (.p id o)), .v (.s (.p id' o')) => if id = id' ∧ o = o' then .v (.s (.p id o)) else .any
  | _, _ => .any

def mrgTs (c : Bool) : List TV → List TV → List TV
  | x :: xs, y :: ys => mrgT c x y :: mrgTs c xs ys
  | _, _ => []

def pickTs (tm : List TV) : List Nat → List TV
  | [] => []
  | d :: ds => unk (tm.getD d (.tup [])) :: pickTs tm ds

def joinTs (ds : List Nat) : Tr ASt → Option (List TV)
  | .ok s => some (pickTs s.tm ds)
  | .br _ c t e => match joinTs ds t, joinTs ds e with
    | some xs, some ys => some (mrgTs c xs ys)
    | _, _ => none
  | .no => none

def setTs : List Nat → List TV → List TV → List TV
  | d :: ds, v :: vs, tm => setTs ds vs (tm.set d v)
  | _, _, tm => tm

def dstsOf : List Oper → List Nat
  | [] => []
  | o :: os => match o.dst with
    | some d => d :: dstsOf os
    | none => dstsOf os

def stillOp (P : Program) (Γ : Specs) (o : Oper) : Bool :=
  match cls P Γ o.op with
  | .N => true
  | .R => true
  | .E => false

def allStill (P : Program) (Γ : Specs) : List Oper → Bool
  | [] => true
  | o :: os => match stillOp P Γ o with
    | true => allStill P Γ os
    | false => false

def joinR (P : Program) (Γ : Specs) (ops : List Oper) (tm : List TV) (H : AH) (T : Tr ASt) : Tr ASt :=
  match allStill P Γ ops with
  | true => match joinTs (dstsOf ops) T with
    | some vs => .ok ⟨setTs (dstsOf ops) vs tm, H⟩
    | none => .no
  | false => .no

section
variable {P : Program} {Γ : Specs} {sy : Nat → Option Nat} {φ : Phi}

theorem unk_rel' {v : TV} {u : Value} (h : relT φ v u) : relT φ (unk v) u := unk_rel.2 h

theorem mrgT_left {x y : TV} {u : Value} (h : relT φ x u) : relT φ (mrgT true x y) u := by
  have h := unk_rel' h
  unfold mrgT
  split
  · rename_i p q h1 h2; rw [h1] at h; exact h
  · rename_i k p k' q h1 h2
    split
    · rw [h1] at h; exact h
    · trivial
  · rename_i id o id' o' h1 h2
    split
    · rw [h1] at h; exact h
    · trivial
  · trivial

theorem mrgT_right {x y : TV} {u : Value} (h : relT φ y u) : relT φ (mrgT false x y) u := by
  have h := unk_rel' h
  unfold mrgT
  split
  · rename_i p q h1 h2; rw [h2] at h; exact h
  · rename_i k p k' q h1 h2
    split
    · rename_i hk; subst hk; rw [h2] at h; exact h
    · trivial
  · rename_i id o id' o' h1 h2
    split
    · rename_i hk; obtain ⟨rfl, rfl⟩ := hk; rw [h2] at h; exact h
    · trivial
  · trivial

def GoodTs (φ : Phi) (tm : List TV) : List Nat → List TV → Prop
  | [], [] => True
  | d :: ds, v :: vs => (∀ u, relT φ (tm.getD d (.tup [])) u → relT φ v u) ∧ GoodTs φ tm ds vs
  | _, _ => False

theorem pickTs_good (tm : List TV) : ∀ ds, GoodTs φ tm ds (pickTs tm ds)
  | [] => trivial
  | _ :: ds => ⟨fun _ h => unk_rel' h, pickTs_good tm ds⟩

theorem good_len {tm : List TV} : ∀ {ds vs}, GoodTs φ tm ds vs → ds.length = vs.length
  | [], [], _ => rfl
  | _ :: _, _ :: _, h => by simp [good_len h.2]
  | [], _ :: _, h => h.elim
  | _ :: _, [], h => h.elim

theorem mrgTs_left {tm : List TV} : ∀ {ds xs ys}, GoodTs φ tm ds xs → xs.length = ys.length → GoodTs φ tm ds (mrgTs true xs ys)
  | [], [], [], _, _ => trivial
  | _ :: _, _ :: _, _ :: _, h, e => ⟨fun u hu => mrgT_left (h.1 u hu), mrgTs_left h.2 (by simpa using e)⟩
  | [], _ :: _, _, h, _ => h.elim
  | _ :: _, [], _, h, _ => h.elim
  | _, [], _ :: _, _, e => by simp at e
  | _, _ :: _, [], _, e => by simp at e

theorem mrgTs_right {tm : List TV} : ∀ {ds xs ys}, GoodTs φ tm ds ys → xs.length = ys.length → GoodTs φ tm ds (mrgTs false xs ys)
  | [], [], [], _, _ => trivial
  | _ :: _, _ :: _, _ :: _, h, e => ⟨fun u hu => mrgT_right (h.1 u hu), mrgTs_right h.2 (by simpa using e)⟩
  | [], _, _ :: _, h, _ => h.elim
  | _ :: _, _, [], h, _ => h.elim
  | _, [], _ :: _, _, e => by simp at e
  | _, _ :: _, [], _, e => by simp at e

theorem joinTs_len {ds : List Nat} : ∀ {T : Tr ASt} {vs : List TV}, joinTs ds T = some vs → vs.length = ds.length
  | .ok s, vs, h => by
    simp only [joinTs, Option.some.injEq] at h
    subst h
    exact (good_len (φ := []) (pickTs_good s.tm ds)).symm
  | .br g c t e, vs, h => by
    simp only [joinTs] at h
    split at h
    · rename_i xs ys h1 h2
      have l1 := joinTs_len h1
      have l2 := joinTs_len h2
      simp only [Option.some.injEq] at h
      subst h
      clear h1 h2
      revert l1 l2
      induction xs generalizing ys ds with
      | nil => intro l1 l2; simp at l1; simp [mrgTs, ← l1]
      | cons x xs ih =>
        intro l1 l2
        cases ys with
        | nil => simp at l1 l2; omega
        | cons y ys =>
          cases ds with
          | nil => simp at l1
          | cons d ds => simp only [mrgTs, List.length_cons]; rw [ih (ds := ds) ys (by simpa using l1) (by simpa using l2)]
    · cases h
  | .no, vs, h => by simp [joinTs] at h

theorem joinTs_good {ds : List Nat} : ∀ {T : Tr ASt} {vs : List TV}, joinTs ds T = some vs → ∃ s, T.val = some s ∧ ∀ φ, GoodTs φ s.tm ds vs
  | .ok s, vs, h => by
    simp only [joinTs, Option.some.injEq] at h
    subst h
    exact ⟨s, rfl, fun φ => pickTs_good s.tm ds⟩
  | .br g c t e, vs, h => by
    simp only [joinTs] at h
    split at h
    · rename_i xs ys h1 h2
      have l1 := joinTs_len h1
      have l2 := joinTs_len h2
      simp only [Option.some.injEq] at h
      subst h
      cases c with
      | true =>
        obtain ⟨s, e1, e2⟩ := joinTs_good h1
        exact ⟨s, e1, fun φ => mrgTs_left (e2 φ) (by omega)⟩
      | false =>
        obtain ⟨s, e1, e2⟩ := joinTs_good h2
        exact ⟨s, e1, fun φ => mrgTs_right (e2 φ) (by omega)⟩
    · cases h
  | .no, vs, h => by simp [joinTs] at h

theorem setTs_rel {stm : List TV} {us : List Value} (hs : All2 (relT φ) stm us) : ∀ {ds : List Nat} {vs tm : List TV}, GoodTs φ stm ds vs → tm.length = stm.length → (∀ i x, tm[i]? = some x → i ∈ ds ∨ ∃ u, us[i]? = some u ∧ relT φ x u) → All2 (relT φ) (setTs ds vs tm) us
  | [], [], tm, _, hl, h => All2.of_get (show tm.length = us.length by rw [hl, hs.length_eq]) fun i a b ha hb => by
    rcases h i a ha with h | ⟨u, h1, h2⟩
    · simp at h
    · rw [hb] at h1; cases h1; exact h2
  | d :: ds, v :: vs, tm, hg, hl, h => by
    simp only [setTs]
    refine setTs_rel hs hg.2 (by simpa using hl) fun i x hx => ?_
    rw [List.getElem?_set] at hx
    split at hx
    · rename_i e
      subst e
      split at hx
      · rename_i hlt
        cases hx
        rw [hl] at hlt
        obtain ⟨u, hu, hr⟩ := hs.get (List.getElem?_eq_getElem hlt)
        refine .inr ⟨u, hu, hg.1 u ?_⟩
        rw [List.getD_eq_getElem?_getD, List.getElem?_eq_getElem hlt]
        exact hr
      · cases hx
    · rename_i hne
      rcases h i x hx with hm | hm
      · rcases List.mem_cons.1 hm with e | e
        · exact (hne e.symm).elim
        · exact .inl e
      · exact .inr hm
  | [], _ :: _, _, h, _, _ => h.elim
  | _ :: _, [], _, h, _, _ => h.elim

/-! ### what a region leaves as it was -/

def Frame1 (ds : List Nat) (tm : List TV) (H : AH) (s : ASt) : Prop := s.hp = H ∧ s.tm.length = tm.length ∧ ∀ i, i ∉ ds → s.tm[i]? = tm[i]?

theorem step_still {o : Oper} {tm : List TV} {H : AH} {r : TV × AH} {y : Option Nat} (h : stillOp P Γ o = true) (hr : (step P Γ y (evalT tm) H o.op).val = some r) : r.2 = H := by
  unfold stillOp at h
  unfold step at hr
  split at hr
  · rw [Tr.val_bind] at hr
    obtain ⟨v, _, h2⟩ := Option.bind_eq_some_iff.1 hr
    have := val_ok h2
    subst this
    rfl
  · rw [Tr.val_bind] at hr
    obtain ⟨v, _, h2⟩ := Option.bind_eq_some_iff.1 hr
    have := val_ok h2
    subst this
    rfl
  · rename_i hc
    rw [hc] at h
    cases h

theorem dsts_mem {o : Oper} {d : Nat} : ∀ {l : List Oper}, o ∈ l → o.dst = some d → d ∈ dstsOf l
  | x :: xs, h, hd => by
    rcases List.mem_cons.1 h with rfl | h
    · simp [dstsOf, hd]
    · have := dsts_mem h hd
      unfold dstsOf
      split
      · exact List.mem_cons_of_mem _ this
      · exact this

theorem still_mem {o : Oper} : ∀ {l : List Oper}, allStill P Γ l = true → o ∈ l → stillOp P Γ o = true
  | x :: xs, h, ho => by
    simp only [allStill] at h
    split at h
    · rename_i hx
      rcases List.mem_cons.1 ho with rfl | ho
      · exact hx
      · exact still_mem h ho
    · cases h

theorem frame1_set {ds : List Nat} {tm : List TV} {H : AH} {s : ASt} {d : Nat} {v : TV} (hd : d ∈ ds) (h : Frame1 ds (tm.set d v) H s) : Frame1 ds tm H s := by
  obtain ⟨h1, h2, h3⟩ := h
  refine ⟨h1, by simpa using h2, fun i hi => ?_⟩
  rw [h3 i hi, List.getElem?_set_ne]
  rintro rfl
  exact hi hd

theorem frame1_put {ds : List Nat} {tm : List TV} {H : AH} {s : ASt} {o : Option Nat} {v : TV} (hd : ∀ d, o = some d → d ∈ ds) (h : Frame1 ds (putT tm o v) H s) : Frame1 ds tm H s := by
  cases o with
  | none => exact h
  | some d => exact frame1_set (hd d rfl) h

theorem runOps_frame {ops : List Oper} (hst : allStill P Γ ops = true) : ∀ {l : List Oper} {tm : List TV} {H : AH} {s : ASt}, (∀ o ∈ l, o ∈ ops) → (runOps P Γ sy ops l tm H).val = some s → Frame1 (dstsOf ops) tm H s
  | [], tm, H, s, _, h => by
    rw [runOps] at h
    have := val_ok h
    subst this
    exact ⟨rfl, rfl, fun _ _ => rfl⟩
  | o :: rest, tm, H, s, hl, h => by
    have ho := hl o (by simp)
    have hl' : ∀ o ∈ rest, o ∈ ops := fun x hx => hl x (by simp [hx])
    have hdst : ∀ d, o.dst = some d → d ∈ dstsOf ops := fun d hd => dsts_mem ho hd
    have doit : ∀ {tm1 : List TV}, (doOp P Γ sy tm1 H o (runOps P Γ sy ops rest)).val = some s → Frame1 (dstsOf ops) tm1 H s := by
      intro tm1 h
      unfold doOp at h
      split at h
      · rename_i b _
        have := runOps_frame hst hl' h
        unfold putK at this
        split at this
        · rename_i d hd; exact frame1_set (hdst d hd) this
        · exact this
      · rw [Tr.val_bind] at h
        obtain ⟨r, h1, h2⟩ := Option.bind_eq_some_iff.1 h
        have e := step_still (still_mem hst ho) h1
        have := runOps_frame hst hl' h2
        rw [e] at this
        exact frame1_put hdst this
    have skip : ∀ {tm1 : List TV}, (runOps P Γ sy ops rest (putT tm1 o.dst (.tup [])) H).val = some s → Frame1 (dstsOf ops) tm1 H s := fun h => frame1_put hdst (runOps_frame hst hl' h)
    rw [runOps] at h
    split at h
    · exact doit h
    · rename_i j want _
      split at h
      · rename_i d c hg
        obtain ⟨_, oj, hj, hd⟩ := guardT_get hg
        have hdm : d ∈ dstsOf ops := dsts_mem (List.mem_of_getElem? hj) hd
        split at h
        · cases c
          · simp only [Tr.val] at h
            cases want
            · exact frame1_set hdm (doit h)
            · exact frame1_set hdm (skip h)
          · simp only [Tr.val] at h
            cases want
            · exact frame1_set hdm (skip h)
            · exact frame1_set hdm (doit h)
        · cases c <;> cases want <;> simp only at h
          · exact doit h
          · exact skip h
          · exact skip h
          · exact doit h
      · rename_i d c hg
        cases c <;> cases want <;> simp only at h
        · exact doit h
        · exact skip h
        · exact skip h
        · exact doit h
      · exact skip h
      · simp [Tr.val] at h

theorem joinR_sound {ops : List Oper} {tm : List TV} {H : AH} {s' : ASt} (h : (joinR P Γ ops tm H (runOps P Γ sy ops ops tm H)).val = some s') : ∃ s, (runOps P Γ sy ops ops tm H).val = some s ∧ s.hp = H ∧ s'.hp = H ∧ ∀ φ us, All2 (relT φ) s.tm us → All2 (relT φ) s'.tm us := by
  unfold joinR at h
  split at h
  · rename_i hst
    split at h
    · rename_i vs hvs
      have := val_ok h
      subst this
      obtain ⟨s, h1, h2⟩ := joinTs_good hvs
      obtain ⟨f1, f2, f3⟩ := runOps_frame hst (fun _ h => h) h1
      refine ⟨s, h1, f1, rfl, fun φ us hr => ?_⟩
      refine setTs_rel hr (h2 φ) f2.symm fun i x hx => ?_
      by_cases hi : i ∈ dstsOf ops
      · exact .inl hi
      · rw [← f3 i hi] at hx
        exact .inr (hr.get hx)
    · simp [Tr.val] at h
  · simp [Tr.val] at h
end
end Go.AM
end

/-
  The abstract machine, part 12: code.
-/
section
namespace Go.AM

inductive Ex where
  | normal
  | exit (id : Nat)
  | ret
  deriving DecidableEq

def Ex.toExit : Ex → Exit
  | .normal => .normal
  | .exit id => .exit id
  | .ret => .ret

def firstReg : Code → Option Nat
  | .region id _ _ => some id
  | .seq a b => match firstReg a with
    | some k => some k
    | none => firstReg b
  | .cond _ a b => match firstReg a with
    | some k => some k
    | none => firstReg b
  | .block _ c => firstReg c
  | .loop c => firstReg c
  | .scope c => firstReg c
  | _ => none

abbrev Loops := Nat → Option (ASt → Tr (Ex × ASt))

def rounds (f : ASt → Tr (Ex × ASt)) : Nat → ASt → Tr (Ex × ASt)
  | 0, _ => .no
  | n + 1, s => (f s).bind fun r => match r.1 with
    | .normal => rounds f n r.2
    | _ => .ok r

def symOf (sy : Nat → Option Nat) : Operand → Option (Nat × Nat)
  | .tmp d => match sy d with
    | some g => some (d, g)
    | none => none
  | _ => none

def knownT (tm : List TV) : Operand → TV
  | .tmp t => tm.getD t (.tup [])
  | x => evalT tm x

def drawOk (P : Program) (Γ : Specs) (ops : Array Oper) : Bool → Bool
  | true => orderOk P Γ ops.toList
  | false => true

def joinOr (P : Program) (Γ : Specs) (y : Option Nat) (ops : List Oper) (tm : List TV) (H : AH) (T : Tr ASt) : Tr ASt :=
  match y with
  | some _ => joinR P Γ ops tm H T
  | none => T

def exec (P : Program) (Γ : Specs) (sy : Nat → Option Nat) (Lp : Loops) (fuel : Nat) : Code → ASt → Tr (Ex × ASt)
  | .skip, s => .ok (.normal, s)
  | .label _, s => .ok (.normal, s)
  | .region id ops draw, s =>
    cond (drawOk P Γ ops draw) ((joinOr P Γ (sy (1000000 + id)) ops.toList s.tm s.hp (runOps P Γ sy ops.toList ops.toList s.tm s.hp)).bind fun s' => forceL s'.tm fun tm => .ok (.normal, ⟨tm, s'.hp⟩))
      (cond (orderOk3 P Γ ops.toList) ((runOps3 P Γ sy ops.toList (masks ops.toList []) 0 [] ops.toList s.tm s.hp).bind fun s' => forceL s'.tm fun tm => .ok (.normal, ⟨tm, s'.hp⟩)) .no)
  | .seq a b, s => (exec P Γ sy Lp fuel a s).bind fun r => match r.1 with
    | .normal => exec P Γ sy Lp fuel b r.2
    | _ => .ok r
  | .cond c t e, s => match knownT s.tm c with
    | .k x => match x with
      | true => exec P Γ sy Lp fuel t s
      | false => exec P Γ sy Lp fuel e s
    | .v (.s (.b x)) => match symOf sy c with
      | some (d, g) => .br g x (exec P Γ sy Lp fuel t ⟨s.tm.set d (.k true), s.hp⟩) (exec P Γ sy Lp fuel e ⟨s.tm.set d (.k false), s.hp⟩)
      | none => match x with
        | true => exec P Γ sy Lp fuel t s
        | false => exec P Γ sy Lp fuel e s
    | _ => .no
  | .block id c, s => (exec P Γ sy Lp fuel c s).bind fun r => match r.1 with
    | .exit id' => if id' = id then .ok (.normal, r.2) else .ok r
    | _ => .ok r
  | .loop c, s => match (firstReg c).bind Lp with
    | some F => F s
    | none => rounds (exec P Γ sy Lp fuel c) fuel s
  | .exit id, s => .ok (.exit id, s)
  | .ret, s => .ok (.ret, s)
  | _, _ => .no

structure Inv (φ : Phi) (s : ASt) (a : Act) (w : World) : Prop where
  rep : Rep φ s.hp w.heap
  tm : All2 (relT φ) s.tm a.tmps.toList
  df : a.defers = []

structure Base (k : Nat) where
  φ : Phi
  H : AH
  w : World
  lφ : φ.length = k
  lH : H.length = k

def Goes (P : Program) (k : Nat) (c : Code) (s : ASt) (r : Ex × ASt) : Prop :=
  ∀ (B : Base k) φ a w Q, Inv φ s a w → Ext B.φ B.H B.w φ s.hp w → (∀ φ' a' w', Inv φ' r.2 a' w' → Ext B.φ B.H B.w φ' r.2.hp w' → Q r.1.toExit a' w') → c.wp P Q a w

def LoopF (P : Program) (k : Nat) (c : Code) (F : ASt → Tr (Ex × ASt)) : Prop := ∀ s r, (F s).val = some r → Goes P k (.loop c) s r

def loopsIn : Code → List (Nat × Code)
  | .seq a b => loopsIn a ++ loopsIn b
  | .cond _ a b => loopsIn a ++ loopsIn b
  | .block _ c => loopsIn c
  | .loop c => (match firstReg c with | some k => [(k, c)] | none => []) ++ loopsIn c
  | .scope c => loopsIn c
  | _ => []

def LoopsOK (P : Program) (k : Nat) (Lp : Loops) (c : Code) : Prop := ∀ p ∈ loopsIn c, ∀ F, Lp p.1 = some F → LoopF P k p.2 F

section
variable {P : Program} {Γ : Specs} {sy : Nat → Option Nat} {Lp : Loops} {fuel k0 : Nat}

theorem goes_loop {c : Code} (h : ∀ n s r, (rounds (exec P Γ sy Lp fuel c) n s).val = some r → ∀ s' r', (exec P Γ sy Lp fuel c s').val = some r' → Goes P k0 c s' r') :
    ∀ (n : Nat) (s : ASt) (r : Ex × ASt), (rounds (exec P Γ sy Lp fuel c) n s).val = some r → Goes P k0 (.loop c) s r := by
  intro n s r hr B φ a w Q hI hE0 hQ
  have key : ∀ (m : Nat) (s' : ASt) (φ' : Phi) (a' : Act) (w' : World), (rounds (exec P Γ sy Lp fuel c) m s').val = some r → Inv φ' s' a' w' → Ext B.φ B.H B.w φ' s'.hp w' →
      ∀ (b : Frame) (k : List Item) (cs : List Frame), ∃ e a2 w2, Q e a2 w2 ∧ Arrives P (lone (b.at a' (.code c :: .inLoop c :: k)) cs w') b k cs e a2 w2 := by
    intro m
    induction m with
    | zero => intro s' φ' a' w' hm; simp [rounds, Tr.val] at hm
    | succ m ih =>
      intro s' φ' a' w' hm hI' hE b k cs
      have hm0 := hm
      rw [rounds, Tr.val_bind] at hm
      cases he : (exec P Γ sy Lp fuel c s').val with
      | none => simp [he] at hm
      | some r' =>
        simp only [he, Option.bind_some] at hm
        have hg := h (m + 1) s' r hm0 s' r' he
        obtain ⟨re, rs⟩ := r'
        cases re with
        | normal =>
          simp only at hm
          have hw := hg B φ' a' w' (fun e a2 w2 => e = .normal ∧ ∃ φ2, Inv φ2 rs a2 w2 ∧ Ext B.φ B.H B.w φ2 rs.hp w2) hI' hE (fun φ2 a2 w2 i1 i2 => ⟨rfl, φ2, i1, i2⟩)
          obtain ⟨e, a2, w2, ⟨rfl, φ2, i1, i2⟩, harr⟩ := hw b (.inLoop c :: k) cs
          obtain ⟨e3, a3, w3, hq3, harr3⟩ := ih rs φ2 a2 w2 hm i1 i2 b k cs
          exact ⟨e3, a3, w3, hq3, .of_steps (Steps.trans harr (.one step_inLoop)) harr3⟩
        | exit id =>
          have := val_ok hm
          subst this
          have hw := hg B φ' a' w' (fun e a2 w2 => e = .exit id ∧ Q e a2 w2) hI' hE (fun φ2 a2 w2 i1 i2 => ⟨rfl, hQ φ2 a2 w2 i1 i2⟩)
          obtain ⟨e, a2, w2, ⟨rfl, hq⟩, harr⟩ := hw b (.inLoop c :: k) cs
          exact ⟨_, a2, w2, hq, .pass (x := .inLoop c) rfl (fun _ _ => .inl (by simp)) harr⟩
        | ret =>
          have := val_ok hm
          subst this
          have hw := hg B φ' a' w' (fun e a2 w2 => e = .ret ∧ Q e a2 w2) hI' hE (fun φ2 a2 w2 i1 i2 => ⟨rfl, hQ φ2 a2 w2 i1 i2⟩)
          obtain ⟨e, a2, w2, ⟨rfl, hq⟩, harr⟩ := hw b (.inLoop c :: k) cs
          exact ⟨_, a2, w2, hq, .pass (x := .inLoop c) rfl (fun _ _ => .inl (by simp)) harr⟩
  intro b k cs
  obtain ⟨e, a', w', hq, harr⟩ := key n s φ a w hr hI hE0 b k cs
  exact ⟨e, a', w', hq, .of_steps (.one step_loop) harr⟩

theorem exec_goes (hΓ : SpecOK P Γ) (hm : P.follows .mixedOrders = true) : ∀ (c : Code), LoopsOK P k0 Lp c → ∀ (s : ASt) (r : Ex × ASt), (exec P Γ sy Lp fuel c s).val = some r → Goes P k0 c s r
  | .skip, _, s, r, h => by
    have := val_ok h; subst this
    exact fun B φ a w Q hI hE hQ => wp_skip (hQ φ a w hI hE)
  | .label l, _, s, r, h => by
    have := val_ok h; subst this
    exact fun B φ a w Q hI hE hQ => wp_label (hQ φ a w hI hE)
  | .exit id, _, s, r, h => by
    have := val_ok h; subst this
    exact fun B φ a w Q hI hE hQ => wp_exit (hQ φ a w hI hE)
  | .ret, _, s, r, h => by
    have := val_ok h; subst this
    exact fun B φ a w Q hI hE hQ => wp_ret (hQ φ a w hI hE)
  | .region id ops draw, _, s, r, h => by
    intro B φ a w Q hI hE hQ
    rw [exec] at h
    cases hd : drawOk P Γ ops draw with
    | false =>
      simp only [hd, cond_false] at h
      have hdr : draw = true := by cases draw with
        | true => rfl
        | false => cases hd
      subst hdr
      cases hd2 : orderOk3 P Γ ops.toList with
      | false => simp [hd2, Tr.val] at h
      | true =>
        simp only [hd2, cond_true] at h
        rw [Tr.val_bind] at h
        cases hj : (runOps3 P Γ sy ops.toList (masks ops.toList []) 0 [] ops.toList s.tm s.hp).val with
        | none => simp [hj] at h
        | some s1 =>
          simp only [hj, Option.bind_some, forceL_eq] at h
          have := val_ok h
          subst this
          exact wp_region_pins (sy := sy) hΓ hm hd2 (runOps3_chain hj) hI.rep (map_unk_rel.2 hI.tm) hI.df fun φ' w' a' g1 g2 g3 g4 => hQ φ' a' w' ⟨g1, map_unk_rel.1 g2, g3⟩ (hE.trans g4)
    | true =>
      simp only [hd, cond_true] at h
      rw [Tr.val_bind] at h
      cases hj : (joinOr P Γ (sy (1000000 + id)) ops.toList s.tm s.hp (runOps P Γ sy ops.toList ops.toList s.tm s.hp)).val with
      | none => simp [hj] at h
      | some s1 =>
        simp only [hj, Option.bind_some, forceL_eq] at h
        have := val_ok h
        subst this
        unfold joinOr at hj
        split at hj
        · obtain ⟨s', hs, e1, e2, hrel⟩ := joinR_sound hj
          refine wp_region_am (sy := sy) hΓ hm (fun hdr => ?_) (runOps_chain hs) hI.rep (map_unk_rel.2 hI.tm) hI.df fun φ' w' a' g1 g2 g3 g4 => hQ φ' a' w' ⟨?_, hrel φ' _ (map_unk_rel.1 g2), g3⟩ (hE.trans ?_)
          · rw [hdr] at hd
            exact hd
          · rw [e2, ← e1]; exact g1
          · rw [e1] at g4
            rw [show (⟨s1.tm, s1.hp⟩ : ASt).hp = s.hp from e2]
            exact g4
        have hs := hj
        refine wp_region_am (sy := sy) hΓ hm (fun hdr => ?_) (runOps_chain hs) hI.rep (map_unk_rel.2 hI.tm) hI.df fun φ' w' a' g1 g2 g3 g4 => hQ φ' a' w' ⟨g1, map_unk_rel.1 g2, g3⟩ (hE.trans g4)
        rw [hdr] at hd
        exact hd
  | .seq x y, hL, s, r, h => by
    intro B φ a w Q hI hE hQ
    rw [exec, Tr.val_bind] at h
    cases hx : (exec P Γ sy Lp fuel x s).val with
    | none => simp [hx] at h
    | some r1 =>
      simp only [hx, Option.bind_some] at h
      have hLx : LoopsOK P k0 Lp x := fun p hp => hL p (by simp [loopsIn, hp])
      have hLy : LoopsOK P k0 Lp y := fun p hp => hL p (by simp [loopsIn, hp])
      refine wp_seq (exec_goes hΓ hm x hLx s r1 hx B φ a w _ hI hE fun φ1 a1 w1 i1 i2 => ?_)
      obtain ⟨re, rs⟩ := r1
      cases re with
      | normal =>
        simp only at h
        exact exec_goes hΓ hm y hLy rs r h B φ1 a1 w1 Q i1 i2 hQ
      | exit id => have := val_ok h; subst this; exact hQ φ1 a1 w1 i1 i2
      | ret => have := val_ok h; subst this; exact hQ φ1 a1 w1 i1 i2
  | .cond c x y, hL, s, r, h => by
    intro B φ a w Q hI hE hQ
    rw [exec] at h
    have hLx : LoopsOK P k0 Lp x := fun p hp => hL p (by simp [loopsIn, hp])
    have hLy : LoopsOK P k0 Lp y := fun p hp => hL p (by simp [loopsIn, hp])
    have hkn : ∀ {v : TV}, knownT s.tm c = v → relT φ v (a.eval c) := by
      rintro v rfl
      have := evalT_rel hI.tm c
      cases c with
      | tmp t => exact unk_rel.1 this
      | _ => exact this
    split at h
    · rename_i b hc
      have hcv : a.eval c = .bool b := hkn hc
      refine wp_cond hcv ?_
      cases b
      · simp only [Bool.false_eq_true, if_false]
        exact exec_goes hΓ hm y hLy s r h B φ a w Q hI hE hQ
      · simp only [if_true]
        exact exec_goes hΓ hm x hLx s r h B φ a w Q hI hE hQ
    · rename_i b hc
      have hcv : a.eval c = .bool b := hkn hc
      refine wp_cond hcv ?_
      split at h
      · rename_i d g hd
        have hsame : Inv φ ⟨s.tm.set d (.k b), s.hp⟩ a w := by
          refine ⟨hI.rep, ?_, hI.df⟩
          have hg : s.tm[d]? = some (.v (.s (.b b))) := by
            cases c with
            | tmp d' =>
              simp only [symOf] at hd
              split at hd
              · cases hd
                simp only [knownT] at hc
                cases hg : s.tm[d]? with
                | none => rw [List.getD_eq_getElem?_getD, hg] at hc; simp at hc
                | some v =>
                  rw [List.getD_eq_getElem?_getD, hg] at hc
                  simp at hc
                  rw [hc]
              · cases hd
            | const _ => cases hd
            | global _ => cases hd
            | func _ => cases hd
          have := map_unk_rel.2 hI.tm
          rw [← set_map hg] at this
          exact map_unk_rel.1 this
        cases b
        · simp only [Tr.val] at h
          simp only [Bool.false_eq_true, if_false]
          exact exec_goes hΓ hm y hLy _ r h B φ a w Q hsame hE hQ
        · simp only [Tr.val] at h
          simp only [if_true]
          exact exec_goes hΓ hm x hLx _ r h B φ a w Q hsame hE hQ
      · cases b
        · simp only [Bool.false_eq_true, if_false]
          exact exec_goes hΓ hm y hLy s r h B φ a w Q hI hE hQ
        · simp only [if_true]
          exact exec_goes hΓ hm x hLx s r h B φ a w Q hI hE hQ
    · simp [Tr.val] at h
  | .block id c, hL, s, r, h => by
    intro B φ a w Q hI hE hQ
    rw [exec, Tr.val_bind] at h
    cases hx : (exec P Γ sy Lp fuel c s).val with
    | none => simp [hx] at h
    | some r1 =>
      simp only [hx, Option.bind_some] at h
      have hLc : LoopsOK P k0 Lp c := fun p hp => hL p (by simp [loopsIn, hp])
      refine wp_block (exec_goes hΓ hm c hLc s r1 hx B φ a w _ hI hE fun φ1 a1 w1 i1 i2 => ?_)
      obtain ⟨re, rs⟩ := r1
      cases re with
      | normal => have := val_ok h; subst this; exact hQ φ1 a1 w1 i1 i2
      | exit id' =>
        simp only at h
        split at h
        · rename_i e
          have := val_ok h; subst this
          simp only [Ex.toExit, Exit.inBlock, e, if_true]
          exact hQ φ1 a1 w1 i1 i2
        · rename_i e
          have := val_ok h; subst this
          simp only [Ex.toExit, Exit.inBlock, e, if_false]
          exact hQ φ1 a1 w1 i1 i2
      | ret => have := val_ok h; subst this; exact hQ φ1 a1 w1 i1 i2
  | .loop c, hL, s, r, h => by
    rw [exec] at h
    have hLc : LoopsOK P k0 Lp c := fun p hp => hL p (by simp [loopsIn, hp])
    split at h
    · rename_i F hF
      cases hk : firstReg c with
      | none => simp [hk] at hF
      | some k =>
        simp only [hk, Option.bind_some] at hF
        exact hL (k, c) (by simp [loopsIn, hk]) F hF s r h
    · exact goes_loop (fun _ _ _ _ s' r' h' => exec_goes hΓ hm c hLc s' r' h') fuel s r h
  | .rangeFunc .., _, s, r, h => by simp [exec, Tr.val] at h
  | .scope _, _, s, r, h => by simp [exec, Tr.val] at h
  | .goto _, _, s, r, h => by simp [exec, Tr.val] at h
  | .refuse _, _, s, r, h => by simp [exec, Tr.val] at h

end
end Go.AM
end
