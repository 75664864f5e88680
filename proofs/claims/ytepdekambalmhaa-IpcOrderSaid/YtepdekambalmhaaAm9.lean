/-
  The abstract machine, part 9: a region that asks the tape for its order: whichever it gets, it comes to what the text's order comes to.
-/
import Derived.Test.YtepdekambalmhaaAm8
namespace Go.AM

section
variable {P : Program} {Γ : Specs} {H : AH} {B : Option Blk}

theorem loadT_mono {t : TypeId} {a v : TV} (h : (loadT P H t a).val = some v) : (loadT P (H ++ [B]) t a).val = some v := by
  unfold loadT at h ⊢
  split at h
  · rename_i id o
    cases hb : blkC H id with
    | none => rw [hb] at h; simp [Tr.val] at h
    | some x => rw [hb] at h; rw [blkC_mono hb]; exact h
  · rename_i id wd i c
    cases hb : blk H id with
    | none => rw [hb] at h; simp [Tr.val] at h
    | some x => rw [hb] at h; rw [blk_mono hb]; exact h
  · simp [Tr.val] at h

theorem loadX_mono {t : TypeId} {id wd i o n len j c : Nat} {v : TV} (h : (loadX P H t id wd i o n len j c).val = some v) : (loadX P (H ++ [B]) t id wd i o n len j c).val = some v := by
  unfold loadX at h ⊢
  cases hb : blkC H id with
  | none => rw [hb] at h; simp [Tr.val] at h
  | some x => rw [hb] at h; rw [blkC_mono hb]; exact h

theorem loadS_mono {t : TypeId} {a v : TV} (h : (loadS P H t a).val = some v) : (loadS P (H ++ [B]) t a).val = some v := by
  cases a with
  | v a =>
    cases a with
    | s a =>
      cases a <;> simp only [loadS] at h ⊢ <;> first
        | exact loadX_mono h
        | exact loadT_mono h
    | agg l => simp only [loadS] at h ⊢; exact loadT_mono h
  | _ => simp only [loadS] at h ⊢; exact loadT_mono h

theorem bytesStrT_mono {s d : TypeId} {x v : TV} (h : bytesStrT P H s d x = some v) : bytesStrT P (H ++ [B]) s d x = some v := by
  unfold bytesStrT at h ⊢
  cases hv : viewT x with
  | none => simp only [hv] at h; (repeat' split at h) <;> simp at h
  | some q =>
    obtain ⟨id, wd, i, len⟩ := q
    cases hb : blk H id with
    | none => simp only [hv, hb] at h; (repeat' split at h) <;> simp at h
    | some b =>
      simp only [hv, hb] at h
      simp only [hv, blk_mono hb]
      exact h

theorem dynR_mono (hM : ∀ f, MonoS (Γ f)) {x v : TV} {args : List TV} (h : (dynR Γ x args H).val = some v) : (dynR Γ x args (H ++ [B])).val = some v := by
  unfold dynR at h ⊢
  split at h
  · rename_i f caps
    cases hf : Γ f with
    | read F =>
      rw [hf] at h
      have := hM f
      rw [hf] at this
      exact this _ _ _ _ h
    | _ => rw [hf] at h; exact h
  · simp [Tr.val] at h

theorem stepR_mono (hM : ∀ f, MonoS (Γ f)) {y : Option Nat} {ρ : Operand → TV} {op : Op} {v : TV} (h : (stepR P Γ y ρ H op).val = some v) : (stepR P Γ y ρ (H ++ [B]) op).val = some v := by
  unfold stepR at h ⊢
  split at h
  · exact loadS_mono h
  · rw [val_opt] at h
    simp only [val_opt]
    exact bytesStrT_mono h
  · rename_i c
    split at h
    · rename_i f hc
      cases hf : Γ f with
      | read F =>
        rw [hf] at h
        have := hM f
        rw [hf] at this
        exact this _ _ _ _ h
      | _ => rw [hf] at h; exact h
    · rename_i t hc
      exact dynR_mono hM h
    · simp [Tr.val] at h
  · simp [Tr.val] at h

theorem stepR_monos (hM : ∀ f, MonoS (Γ f)) {y : Option Nat} {ρ : Operand → TV} {op : Op} {v : TV} : ∀ {Bs : AH} {H : AH}, (stepR P Γ y ρ H op).val = some v → (stepR P Γ y ρ (H ++ Bs) op).val = some v
  | [], H, h => by simpa using h
  | B :: Bs, H, h => by
    have := stepR_monos hM (Bs := Bs) (stepR_mono (B := B) hM h)
    simpa using this
end

def maskOf (acc : List Nat) (o : Oper) : Nat :=
  o.after.toList.foldl (fun s e => if Region.binds .any e then s ||| 2 ^ e.on ||| acc.getD e.on 0 else s) 0

def masks : List Oper → List Nat → List Nat
  | [], acc => acc
  | o :: os, acc => masks os (acc ++ [maskOf acc o])

def looks (ops : List Oper) (o : Oper) : List Nat :=
  (o.op.operands.toList.filterMap fun | .tmp t => some t | _ => none) ++
  (match o.guard with
   | some (g, _) => match ops[g]? with
     | some og => og.dst.toList
     | none => []
   | none => [])

def isAlloc : Op → Bool
  | .alloc _ => true
  | _ => false

structure Info where
  dst : Option Nat
  lks : List Nat
  cl : Cl
  al : Bool

def infoOf (P : Program) (Γ : Specs) (ops : List Oper) (o : Oper) : Info := ⟨o.dst, looks ops o, cls P Γ o.op, isAlloc o.op⟩

def memb (d : Option Nat) (l : List Nat) : Bool :=
  match d with
  | some d => l.contains d
  | none => false

def meets (x y : Info) : Bool :=
  memb x.dst y.lks || memb y.dst x.lks || memb x.dst y.dst.toList ||
  (match x.cl, y.cl with
   | .E, .R | .E, .E => true
   | .R, .E => !y.al
   | _, _ => false)

def rowOk (y : Info) (my : Nat) : (i : Nat) → List Info → Bool
  | _, [] => true
  | i, x :: xs => (!(meets x y) || my.testBit i) && rowOk y my (i + 1) xs

def rowsOk : (before : List Info) → List Info → List Nat → Bool
  | b, y :: ys, m :: ms => rowOk y m 0 b && rowsOk (b ++ [y]) ys ms
  | _, _, _ => true

def edgesOk : (k : Nat) → List Oper → Bool
  | _, [] => true
  | k, o :: os => (o.after.toList.all fun e => !(Region.binds .any e) || decide (e.on < k)) && edgesOk (k + 1) os

def orderOk (P : Program) (Γ : Specs) (ops : List Oper) : Bool :=
  edgesOk 0 ops && rowsOk [] (ops.map (infoOf P Γ ops)) (masks ops [])

section
variable {P : Program} {Γ : Specs} {sy : Nat → Option Nat}

theorem foldl_mask (acc : List Nat) (j : Nat) : ∀ (es : List Edge) (s : Nat), (es.foldl (fun s e => if Region.binds .any e then s ||| 2 ^ e.on ||| acc.getD e.on 0 else s) s).testBit j = true →
    s.testBit j = true ∨ ∃ e ∈ es, Region.binds .any e = true ∧ (e.on = j ∨ (acc.getD e.on 0).testBit j = true)
  | [], s, h => .inl h
  | e :: es, s, h => by
    simp only [List.foldl_cons] at h
    rcases foldl_mask acc j es _ h with h' | ⟨e', h1, h2⟩
    · by_cases hb : Region.binds .any e = true
      · simp only [hb, if_true, Nat.testBit_or, Bool.or_eq_true, Nat.testBit_two_pow, decide_eq_true_eq] at h'
        rcases h' with (h' | h') | h'
        · exact .inl h'
        · exact .inr ⟨e, by simp, hb, .inl h'⟩
        · exact .inr ⟨e, by simp, hb, .inr h'⟩
      · simp only [hb, Bool.false_eq_true, if_false] at h'
        exact .inl h'
    · exact .inr ⟨e', by simp [h1], h2⟩

theorem maskOf_spec {acc : List Nat} {o : Oper} {j : Nat} (h : (maskOf acc o).testBit j = true) : ∃ e ∈ o.after.toList, Region.binds .any e = true ∧ (e.on = j ∨ (acc.getD e.on 0).testBit j = true) := by
  rcases foldl_mask acc j _ _ h with h' | h'
  · simp at h'
  · exact h'

theorem masks_append : ∀ (os : List Oper) (acc : List Nat), ∃ r, masks os acc = acc ++ r ∧ r.length = os.length
  | [], acc => ⟨[], by simp [masks], rfl⟩
  | o :: os, acc => by
    obtain ⟨r, h1, h2⟩ := masks_append os (acc ++ [maskOf acc o])
    exact ⟨maskOf acc o :: r, by rw [masks, h1]; simp, by simp [h2]⟩

theorem masks_get : ∀ (os : List Oper) (acc : List Nat) (k : Nat) (o : Oper), os[k]? = some o → (masks os acc)[acc.length + k]? = some (maskOf ((masks os acc).take (acc.length + k)) o)
  | [], acc, k, o, h => by simp at h
  | x :: os, acc, 0, o, h => by
    simp at h
    subst h
    obtain ⟨r, h1, h2⟩ := masks_append os (acc ++ [maskOf acc x])
    rw [masks, h1]
    simp
  | x :: os, acc, k + 1, o, h => by
    simp at h
    have := masks_get os (acc ++ [maskOf acc x]) k o h
    rw [masks]
    simp only [List.length_append, List.length_singleton] at this
    rw [show acc.length + (k + 1) = acc.length + 1 + k by omega]
    exact this

theorem rowOk_spec {y : Info} {my : Nat} : ∀ {xs : List Info} {i : Nat}, rowOk y my i xs = true → ∀ (j : Nat) (x : Info), xs[j]? = some x → meets x y = true → my.testBit (i + j) = true
  | [], i, _, j, x, hx, _ => by simp at hx
  | z :: xs, i, h, 0, x, hx, hm => by
    simp at hx
    subst hx
    simp only [rowOk, Bool.and_eq_true, Bool.or_eq_true, Bool.not_eq_true'] at h
    rcases h.1 with h' | h'
    · rw [hm] at h'; cases h'
    · exact h'
  | z :: xs, i, h, j + 1, x, hx, hm => by
    simp at hx
    simp only [rowOk, Bool.and_eq_true] at h
    have := rowOk_spec h.2 j x hx hm
    rwa [show i + (j + 1) = i + 1 + j by omega]

theorem rowsOk_spec : ∀ {ys : List Info} {ms : List Nat} {b : List Info}, rowsOk b ys ms = true → ys.length = ms.length → ∀ (j i : Nat) (x y : Info) (m : Nat), i < b.length + j → (b ++ ys)[i]? = some x → ys[j]? = some y → ms[j]? = some m →
    meets x y = true → m.testBit i = true
  | [], ms, b, _, _, j, i, x, y, m, _, _, hy, _, _ => by simp at hy
  | z :: ys, [], b, _, hl, _, _, _, _, _, _, _, _, _, _ => by simp at hl
  | z :: ys, m0 :: ms, b, h, hl, 0, i, x, y, m, hi, hx, hy, hm, hmt => by
    simp at hy hm
    subst hy; subst hm
    simp only [rowsOk, Bool.and_eq_true] at h
    have hx' : b[i]? = some x := by rw [List.getElem?_append_left (by omega)] at hx; exact hx
    have := rowOk_spec h.1 i x hx' hmt
    simpa using this
  | z :: ys, m0 :: ms, b, h, hl, j + 1, i, x, y, m, hi, hx, hy, hm, hmt => by
    simp at hy hm
    simp only [rowsOk, Bool.and_eq_true] at h
    exact rowsOk_spec h.2 (by simpa using hl) j i x y m (by simp; omega) (by simpa using hx) hy hm hmt

theorem edgesOk_spec : ∀ {os : List Oper} {k : Nat}, edgesOk k os = true → ∀ (j : Nat) (o : Oper), os[j]? = some o → ∀ e ∈ o.after.toList, Region.binds .any e = true → e.on < k + j
  | [], k, _, j, o, ho, _, _, _ => by simp at ho
  | z :: os, k, h, 0, o, ho, e, he, hb => by
    simp at ho
    subst ho
    simp only [edgesOk, Bool.and_eq_true, List.all_eq_true] at h
    have := h.1 e he
    simp [hb] at this
    omega
  | z :: os, k, h, j + 1, o, ho, e, he, hb => by
    simp at ho
    simp only [edgesOk, Bool.and_eq_true] at h
    have := edgesOk_spec h.2 j o ho e he hb
    omega

/-- Two operations that meet: the later one waits, at some removes, for the earlier one. -/
theorem waits_of_meets {ops : List Oper} (h : orderOk P Γ ops = true) {i j : Nat} {x y : Oper} (hij : i < j) (hx : ops[i]? = some x) (hy : ops[j]? = some y) (hm : meets (infoOf P Γ ops x) (infoOf P Γ ops y) = true) :
    ∃ m, (masks ops [])[j]? = some m ∧ m.testBit i = true := by
  simp only [orderOk, Bool.and_eq_true] at h
  have hg := masks_get ops [] j y hy
  simp only [List.length_nil, Nat.zero_add] at hg
  refine ⟨_, hg, ?_⟩
  obtain ⟨r, h1, h2⟩ := masks_append ops []
  exact rowsOk_spec h.2 (by rw [h1]; simp [h2]) j i _ _ _ (by simpa using hij) (by simp [hx]) (by simp [hy]) hg hm

/-- What is waited for, at some removes, has come up. -/
theorem closed_mask {ops : List Oper} (h : orderOk P Γ ops = true) {S : Nat → Bool} (hS : ∀ (k : Nat) (o : Oper), ops[k]? = some o → S k = true → ∀ e ∈ o.after.toList, Region.binds .any e = true → S e.on = true) :
    ∀ (k : Nat) (o : Oper) (m j : Nat), ops[k]? = some o → (∀ e ∈ o.after.toList, Region.binds .any e = true → S e.on = true) → (masks ops [])[k]? = some m → m.testBit j = true → S j = true := by
  have hE := (by simpa only [orderOk, Bool.and_eq_true] using h : edgesOk 0 ops = true ∧ _).1
  intro k
  induction k using Nat.strongRecOn with
  | _ k ih =>
    intro o m j ho hS0 hm hj
    have hg := masks_get ops [] k o ho
    simp only [List.length_nil, Nat.zero_add] at hg
    rw [hm] at hg
    cases hg
    obtain ⟨e, he, hb, hej⟩ := maskOf_spec hj
    rcases hej with rfl | hej
    · exact hS0 e he hb
    · have hlt := edgesOk_spec hE k o ho e he hb
      simp only [Nat.zero_add] at hlt
      have hSe := hS0 e he hb
      cases hoe : ops[e.on]? with
      | none =>
        have : ops.length ≤ e.on := List.getElem?_eq_none_iff.1 hoe
        have : k < ops.length := by
          rcases Nat.lt_or_ge k ops.length with h' | h'
          · exact h'
          · simp [List.getElem?_eq_none h'] at ho
        omega
      | some oe =>
        have hme := masks_get ops [] e.on oe hoe
        simp only [List.length_nil, Nat.zero_add] at hme
        refine ih e.on hlt oe _ j hoe (hS e.on oe hoe hSe) hme ?_
        rw [List.getD_eq_getElem?_getD, List.getElem?_take, if_pos hlt, hme] at hej
        exact hej

/-! ### a step looks at its operands alone -/

theorem partsT_congr {ρ ρ' : Operand → TV} : ∀ {l : List (Nat × Operand)}, (∀ x ∈ l.map (·.2), ρ x = ρ' x) → partsT ρ l = partsT ρ' l
  | [], _ => rfl
  | (i, x) :: l, h => by
    simp only [partsT]
    rw [h x (by simp), partsT_congr (l := l) fun y hy => h y (by simp at hy ⊢; exact .inr hy)]

theorem capsT_congr {ρ ρ' : Operand → TV} : ∀ {l : List Operand}, (∀ x ∈ l, ρ x = ρ' x) → capsT ρ l = capsT ρ' l
  | [], _ => rfl
  | x :: l, h => by
    simp only [capsT]
    rw [h x (by simp), capsT_congr (l := l) fun y hy => h y (by simp [hy])]

theorem map_congr' {ρ ρ' : Operand → TV} {l : List Operand} (h : ∀ x ∈ l, ρ x = ρ' x) : l.map ρ = l.map ρ' := List.map_congr_left h

theorem omap_congr {ρ ρ' : Operand → TV} {o : Option Operand} (h : ∀ x ∈ o.toArray, ρ x = ρ' x) : o.map ρ = o.map ρ' := by
  cases o with
  | none => rfl
  | some x => simp [h x (by simp)]

theorem step_congr {ρ ρ' : Operand → TV} {y : Option Nat} {H : AH} {op : Op} (h : ∀ x ∈ op.operands.toList, ρ x = ρ' x) : step P Γ y ρ H op = step P Γ y ρ' H op := by
  have hcall : ∀ c : Call, op = .call c → ∀ x ∈ c.args.toList, ρ x = ρ' x := by
    rintro c rfl x hx
    exact h x (by simp only [Op.operands, Call.operands, Array.toList_append, List.mem_append]; exact .inr hx)
  unfold step
  have eN : stepN P Γ y ρ op = stepN P Γ y ρ' op := by
    cases op <;> simp only [stepN]
    case move x => rw [h x (by simp [Op.operands])]
    case assign x => rw [h x (by simp [Op.operands])]
    case nilCheck x => rw [h x (by simp [Op.operands])]
    case unOp op t x => rw [h x (by simp [Op.operands])]
    case sliceToArrayPointer d x => rw [h x (by simp [Op.operands])]
    case convert s d x => rw [h x (by simp [Op.operands])]
    case fieldAddr s x f => rw [h x (by simp [Op.operands])]
    case field s x f => rw [h x (by simp [Op.operands])]
    case extract x i => rw [h x (by simp [Op.operands])]
    case build t parts =>
      rw [partsT_congr (ρ := ρ) (ρ' := ρ') (l := parts.toList)]
      intro x hx
      exact h x (by simpa [Op.operands] using hx)
    case pick c a b =>
      simp only [h c (by simp [Op.operands]), h a (by simp [Op.operands]), h b (by simp [Op.operands])]
    case binOp op t a b yt =>
      simp only [h a (by simp [Op.operands]), h b (by simp [Op.operands])]
    case makeFunc fn first captured =>
      cases fn <;> simp only
      rw [capsT_congr (ρ := ρ) (ρ' := ρ') (l := captured.toList)]
      intro x hx
      exact h x (by simp only [Op.operands, Array.toList_append, List.mem_append]; exact .inr hx)
    case slice t x lo hi mx =>
      have e1 := h x (by simp [Op.operands])
      have e2 : lo.map ρ = lo.map ρ' := omap_congr fun z hz => h z (by simp only [Op.operands, Array.toList_append, List.mem_append]; exact .inl (.inl (.inr (by simpa using hz))))
      have e3 : hi.map ρ = hi.map ρ' := omap_congr fun z hz => h z (by simp only [Op.operands, Array.toList_append, List.mem_append]; exact .inl (.inr (by simpa using hz)))
      have e4 : mx.map ρ = mx.map ρ' := omap_congr fun z hz => h z (by simp only [Op.operands, Array.toList_append, List.mem_append]; exact .inr (by simpa using hz))
      rw [e1, e2, e3, e4]
    case indexAddr t x ix =>
      simp only [h x (by simp [Op.operands]), h ix (by simp [Op.operands])]
    case index t x ix =>
      simp only [h x (by simp [Op.operands]), h ix (by simp [Op.operands])]
    case call c =>
      have ha := hcall c rfl
      have e1 : c.args.toList.map ρ = c.args.toList.map ρ' := map_congr' ha
      cases hcc : c.callee with
      | value f => cases f <;> simp only [e1]
      | invoke r m => rfl
      | builtin b =>
        cases hca : c.args.toList with
        | nil => cases b <;> first | rfl | (cases c.argTypes.toList <;> rfl) | (rcases c.argTypes.toList with _ | ⟨t, _ | _⟩ <;> rfl)
        | cons x rest =>
          rw [hca] at ha
          have e2 : ρ x = ρ' x := ha x (by simp)
          have e3 : rest.map ρ = rest.map ρ' := map_congr' fun z hz => ha z (by simp [hz])
          cases b <;> first
            | (simp only [e2, e3]; done)
            | rfl
            | (rcases c.argTypes.toList with _ | ⟨t, _ | _⟩ <;> cases rest <;> simp only [e2])
  have eR : stepR P Γ y ρ H op = stepR P Γ y ρ' H op := by
    cases op <;> simp only [stepR]
    case load t a => rw [h a (by simp [Op.operands])]
    case convert s d x => rw [h x (by simp [Op.operands])]
    case call c =>
      have e1 : c.args.toList.map ρ = c.args.toList.map ρ' := map_congr' (hcall c rfl)
      cases hcc : c.callee with
      | value f =>
        have e2 : ρ f = ρ' f := h f (by simp [Op.operands, Call.operands, hcc])
        cases f <;> simp only [e1, e2]
      | invoke r m => rfl
      | builtin b => rfl
  have eE : stepE P Γ y ρ H op = stepE P Γ y ρ' H op := by
    cases op <;> simp only [stepE]
    case box t x => rw [h x (by simp [Op.operands])]
    case buildSlice t len parts =>
      rw [partsT_congr (ρ := ρ) (ρ' := ρ') (l := parts.toList)]
      intro x hx
      exact h x (by simpa [Op.operands] using hx)
    case store t a x => rw [h a (by simp [Op.operands]), h x (by simp [Op.operands])]
    case convert s d x => rw [h x (by simp [Op.operands])]
    case call c =>
      have ha := hcall c rfl
      have e1 : c.args.toList.map ρ = c.args.toList.map ρ' := map_congr' ha
      cases hcc : c.callee with
      | value f =>
        have e2 : ρ f = ρ' f := h f (by simp [Op.operands, Call.operands, hcc])
        simp only [e1, e2]
      | invoke r m => rfl
      | builtin b =>
        cases hca : c.args.toList with
        | nil => cases b <;> first | rfl | (rcases c.argTypes.toList with _ | ⟨t, _ | ⟨t2, _ | _⟩⟩ <;> rfl)
        | cons x rest =>
          rw [hca] at ha
          have e2 : ρ x = ρ' x := ha x (by simp)
          cases rest with
          | nil => cases b <;> first | rfl | (rcases c.argTypes.toList with _ | ⟨t, _ | ⟨t2, _ | _⟩⟩ <;> simp only [e2])
          | cons x2 rest =>
            have e3 : ρ x2 = ρ' x2 := ha x2 (by simp)
            cases b <;> first | rfl | (rcases c.argTypes.toList with _ | ⟨t, _ | ⟨t2, _ | _⟩⟩ <;> cases rest <;> simp only [e2, e3])
  rw [eN, eR, eE]

end
end Go.AM
