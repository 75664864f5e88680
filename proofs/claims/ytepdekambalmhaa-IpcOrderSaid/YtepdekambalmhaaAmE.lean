/-
  The abstract machine, part 14: from a law's reading to the machine's arguments, and back.
-/
import Derived.Test.YtepdekambalmhaaAmD
import Derived.Carry
import Derived.Handed
import Derived.ProofKit
namespace Go.AM
open Go.RowKit Go.ChangeShapes Go.WideShapes

theorem all2_nil {α β : Type} {R : α → β → Prop} : All2 R [] [] := trivial
theorem all2_cons {α β : Type} {R : α → β → Prop} {a : α} {b : β} {as : List α} {bs : List β} (h : R a b) (t : All2 R as bs) : All2 R (a :: as) (b :: bs) := ⟨h, t⟩

def valS : SK → Int → Value
  | .b, x => .bool (x != 0)
  | .n k, x => .int k x

/-- A number that is of its kind. -/
def wfS : SK → Int → Prop
  | .b, x => x = 0 ∨ x = 1
  | .n k, x => k.min ≤ x ∧ x ≤ k.max

theorem relS_mkS (φ : Phi) (k : SK) (x : Int) : relS φ (mkS k x) (valS k x) := by cases k <;> rfl

def valsK : List SK → List Int → List Value
  | k :: ks, x :: xs => valS k x :: valsK ks xs
  | _, _ => []

def mksK : List SK → List Int → List AS
  | k :: ks, x :: xs => mkS k x :: mksK ks xs
  | _, _ => []

def wfsK : List SK → List Int → Prop
  | k :: ks, x :: xs => wfS k x ∧ wfsK ks xs
  | [], [] => True
  | _, _ => False

theorem wfsK.length : ∀ {ks : List SK} {xs : List Int}, wfsK ks xs → xs.length = ks.length
  | [], [], _ => rfl
  | _ :: _, _ :: _, h => by simp [h.2.length]
  | [], _ :: _, h => h.elim
  | _ :: _, [], h => h.elim

theorem rel_mksK (φ : Phi) : ∀ (ks : List SK) (xs : List Int), All2 (relS φ) (mksK ks xs) (valsK ks xs)
  | [], _ => by simp [mksK, valsK, All2]
  | _ :: _, [] => by simp [mksK, valsK, All2]
  | k :: ks, x :: xs => ⟨relS_mkS φ k x, rel_mksK φ ks xs⟩

theorem valsK_append : ∀ {ks ks' : List SK} {xs xs' : List Int}, xs.length = ks.length → valsK (ks ++ ks') (xs ++ xs') = valsK ks xs ++ valsK ks' xs'
  | [], _, [], _, _ => rfl
  | k :: ks, _, x :: xs, _, h => by simp [valsK, valsK_append (ks := ks) (xs := xs) (by simpa using h)]
  | [], _, _ :: _, _, h => by simp at h
  | _ :: _, _, [], _, h => by simp at h

theorem wfsK_append : ∀ {ks ks' : List SK} {xs xs' : List Int}, wfsK ks xs → wfsK ks' xs' → wfsK (ks ++ ks') (xs ++ xs')
  | [], _, [], _, _, h => h
  | _ :: _, _, _ :: _, _, h, h' => ⟨h.1, wfsK_append h.2 h'⟩
  | [], _, _ :: _, _, h, _ => h.elim
  | _ :: _, _, [], _, h, _ => h.elim

/-- Kinds of a type's cells, where these are truth values and numbers. -/
def flatFs (fl : TypeId → Option (List SK)) (sz : TypeId → Nat) : (off : Nat) → List Field → Option (List SK)
  | _, [] => some []
  | off, f :: fs => if f.offset = off then match fl f.type with
      | some ks => if ks.length = sz f.type then match flatFs fl sz (off + ks.length) fs with
          | some r => some (ks ++ r)
          | none => none
        else none
      | none => none
    else none

def flatR (ks : List SK) : Nat → List SK
  | 0 => []
  | n + 1 => ks ++ flatR ks n

def flatK (P : Program) : Nat → TypeId → Option (List SK)
  | 0, _ => none
  | d + 1, t => match P.underlying t with
    | some .bool => some [.b]
    | some (.int k) => some [.n k]
    | some (.struct fs) => match flatFs (flatK P d) P.cellsOf 0 fs.toList with
      | some ks => if ks.length = P.cellsOf t then some ks else none
      | none => none
    | some (.array n e) => match flatK P d e with
      | some ks => if ks.length = P.cellsOf e ∧ n * ks.length = P.cellsOf t then some (flatR ks n) else none
      | none => none
    | _ => none

section
variable {P : Program} {H : Type} {enc : TypeId × Value → H}

theorem wf_of_lit {k : IntKind} {n : Int} (h : (Lit.int k n).wf = true) : k.min ≤ n ∧ n ≤ k.max := by
  simpa [Lit.wf] using h

theorem flatR_length (ks : List SK) : ∀ n, (flatR ks n).length = n * ks.length
  | 0 => by simp [flatR]
  | n + 1 => by simp [flatR, flatR_length ks n, Nat.add_mul]; omega

theorem trod_fields {W : World} {base : Nat} {sp : Nat → Bool} {held : Bool} {d fuel : Nat} {cs : List Value}
    (IH : ∀ t ks cs x, flatK P d t = some ks → DataW.trod enc P W base sp held fuel t cs = some x → ∃ xs, cs = valsK ks xs ∧ wfsK ks xs) :
    ∀ (fs : List Field) (off : Nat) (ks : List SK) (rs : List (DataW H × List MemPlace)), flatFs (flatK P d) P.cellsOf off fs = some ks →
      fs.mapM (fun f => DataW.trod enc P W base sp held fuel f.type ((cs.drop f.offset).take (P.cellsOf f.type))) = some rs → ∃ xs, (cs.drop off).take ks.length = valsK ks xs ∧ wfsK ks xs
  | [], off, ks, rs, h, _ => by
    simp only [flatFs, Option.some.injEq] at h
    subst h
    exact ⟨[], by simp [valsK], trivial⟩
  | f :: fs, off, ks, rs, h, hm => by
    simp only [flatFs] at h
    split at h
    · rename_i ho
      split at h
      · rename_i k1 hk1
        split at h
        · rename_i hl
          split at h
          · rename_i r hr
            obtain rfl := Option.some.inj h
            rw [List.mapM_cons] at hm
            simp only [bind, Option.bind_eq_some_iff, pure, Option.some.injEq] at hm
            obtain ⟨x1, h1, rs', h2, rfl⟩ := hm
            rw [ho] at h1
            obtain ⟨xs1, e1, w1⟩ := IH _ _ _ _ hk1 h1
            obtain ⟨xs2, e2, w2⟩ := trod_fields IH fs (off + k1.length) r rs' hr h2
            refine ⟨xs1 ++ xs2, ?_, wfsK_append w1 w2⟩
            rw [valsK_append w1.length, ← e1, ← e2, List.length_append, ← hl, List.take_add, List.drop_drop]
          · cases h
        · cases h
      · cases h
    · cases h

theorem trod_items {W : World} {base : Nat} {sp : Nat → Bool} {held : Bool} {fuel : Nat} {e : TypeId} {ks : List SK} {cs : List Value}
    (IH : ∀ cs x, DataW.trod enc P W base sp held fuel e cs = some x → ∃ xs, cs = valsK ks xs ∧ wfsK ks xs) (hl : ks.length = P.cellsOf e) :
    ∀ (n i : Nat) (rs : List (DataW H × List MemPlace)), (List.range' i n).mapM (fun i => DataW.trod enc P W base sp held fuel e ((cs.drop (i * P.cellsOf e)).take (P.cellsOf e))) = some rs →
      ∃ xs, (cs.drop (i * ks.length)).take (flatR ks n).length = valsK (flatR ks n) xs ∧ wfsK (flatR ks n) xs
  | 0, i, rs, _ => ⟨[], by simp [flatR, valsK], trivial⟩
  | n + 1, i, rs, hm => by
    rw [List.range'_succ, List.mapM_cons] at hm
    simp only [bind, Option.bind_eq_some_iff, pure, Option.some.injEq] at hm
    obtain ⟨x1, h1, rs', h2, rfl⟩ := hm
    obtain ⟨xs1, e1, w1⟩ := IH _ _ h1
    obtain ⟨xs2, e2, w2⟩ := trod_items IH hl n (i + 1) rs' h2
    refine ⟨xs1 ++ xs2, ?_, wfsK_append w1 w2⟩
    simp only [flatR, List.length_append]
    rw [valsK_append w1.length, ← e1, ← e2, ← hl, List.take_add, List.drop_drop, Nat.add_mul, Nat.one_mul]

/-- What is read at a flat type: numbers of their kinds. -/
theorem trod_flat {W : World} {base : Nat} {sp : Nat → Bool} {held : Bool} : ∀ (d : Nat) (t : TypeId) (ks : List SK) (fuel : Nat) (cs : List Value) (x : DataW H × List MemPlace), flatK P d t = some ks → DataW.trod enc P W base sp held fuel t cs = some x →
    ∃ xs, cs = valsK ks xs ∧ wfsK ks xs
  | 0, _, _, _, _, _, h, _ => by simp [flatK] at h
  | _ + 1, _, _, 0, _, _, _, hx => by simp [DataW.trod] at hx
  | d + 1, t, ks, fuel + 1, cs, x, h, hx => by
    unfold flatK at h
    have hx0 := hx
    unfold DataW.trod at hx
    split at h
    · rename_i hu
      obtain rfl := Option.some.inj h
      obtain ⟨b, rfl, _⟩ := DataW.trod_bool (fuel := fuel + 1) hu hx0
      refine ⟨[if b = true then 1 else 0], ?_, ?_⟩
      · cases b <;> rfl
      · cases b <;> simp [wfsK, wfS]
    · rename_i k hu
      obtain rfl := Option.some.inj h
      obtain ⟨n, rfl, _, hw⟩ := DataW.trod_int (fuel := fuel + 1) hu hx0
      exact ⟨[n], rfl, wf_of_lit hw, trivial⟩
    · rename_i fs hu
      split at h
      · rename_i ks' hks
        split at h
        · rename_i hlen
          obtain rfl := Option.some.inj h
          rw [hu] at hx
          split at hx
          all_goals first
            | (simp at *; done)
            | skip
          rename_i fs' _ heq
          simp only [Option.some.injEq, TypeDesc.struct.injEq] at heq
          subst heq
          split at hx
          · rename_i hcl
            simp only [Option.map_eq_some_iff] at hx
            obtain ⟨rs, hrs, rfl⟩ := hx
            obtain ⟨xs, e1, w1⟩ := trod_fields (fun t ks cs x h1 h2 => trod_flat d t ks fuel cs x h1 h2) _ 0 _ rs hks hrs
            refine ⟨xs, ?_, w1⟩
            rw [← e1, hlen, ← hcl]
            simp
          · cases hx
        · cases h
      · cases h
    · rename_i n e hu
      split at h
      · rename_i ks' hks
        split at h
        · rename_i hlen
          obtain rfl := Option.some.inj h
          rw [hu] at hx
          split at hx
          all_goals first
            | (simp at *; done)
            | skip
          rename_i n' e' _ heq
          simp only [Option.some.injEq, TypeDesc.array.injEq] at heq
          obtain ⟨rfl, rfl⟩ := heq
          split at hx
          · rename_i hcl
            simp only [Option.map_eq_some_iff] at hx
            obtain ⟨rs, hrs, rfl⟩ := hx
            rw [List.range_eq_range'] at hrs
            obtain ⟨xs, e1, w1⟩ := trod_items (fun cs x h2 => trod_flat d _ _ fuel cs x hks h2) hlen.1 n 0 rs hrs
            refine ⟨xs, ?_, w1⟩
            rw [← e1, flatR_length, hlen.2, ← hcl]
            simp
          · cases hx
        · cases h
      · cases h
    · cases h

def argT (b : Bool) (ks : List SK) (xs : List Int) : TV :=
  match b with
  | true => .v (.agg (mksK ks xs))
  | false => match mksK ks xs with
    | [a] => .v (.s a)
    | _ => .any

/-- An argument of a flat type. -/
theorem open_flat {W : World} {base base' : Nat} {sp : Nat → Bool} {held : Bool} {t : TypeId} {ks : List SK} {b : Bool} {v : Value} {dd : DataW H} {ps : List MemPlace} {n : Nat} (hk : flatK P n t = some ks) (hb : aggT P t = some b)
    (hok : Value.okWide P W .any base' t v) (ht : DataW.Trod enc P W base sp held t v dd ps) : ∃ xs, wfsK ks xs ∧ ∀ φ, relT φ (argT b ks xs) v := by
  obtain ⟨fuel, hf⟩ := ht
  obtain ⟨xs, hc, hw⟩ := trod_flat n t ks fuel _ _ hk hf
  refine ⟨xs, hw, fun φ => ?_⟩
  have hlen := hw.length
  cases b with
  | true =>
    unfold aggT at hb
    have hag : ∃ cs, v = .agg cs := by
      unfold Value.okWide at hok
      split at hb <;> simp_all
      · obtain ⟨cs, h, _⟩ := hok; exact ⟨cs, h⟩
      · obtain ⟨cs, h, _⟩ := hok; exact ⟨cs, h⟩
    obtain ⟨cs, rfl⟩ := hag
    refine ⟨cs, rfl, ?_⟩
    have : cs.toList = valsK ks xs := hc
    rw [this]
    exact rel_mksK φ ks xs
  | false =>
    cases n with
    | zero => simp [flatK] at hk
    | succ n =>
      unfold flatK at hk
      unfold aggT at hb
      split at hk
      · rename_i hu
        obtain rfl := Option.some.inj hk
        obtain ⟨b, rfl⟩ := okWide_bool hu hok
        match xs, hlen with
        | [x], _ =>
          have h1 : [Value.bool b] = [valS .b x] := hc
          simp only [List.cons.injEq, and_true] at h1
          show Value.bool b = Value.bool (x != 0)
          exact h1
      · rename_i k hu
        obtain rfl := Option.some.inj hk
        obtain ⟨m, rfl⟩ := okWide_int hu hok
        match xs, hlen with
        | [x], _ =>
          have h1 : [Value.int k m] = [valS (.n k) x] := hc
          simp only [List.cons.injEq, and_true] at h1
          exact h1
      · rename_i fs hu; simp [hu] at hb
      · rename_i m e hu; simp [hu] at hb
      · cases hk

def mkF (x : Nat → Int) : Nat → List SK → List AS
  | _, [] => []
  | i, k :: ks => mkS k (x i) :: mkF x (i + 1) ks

def argF (b : Bool) (ks : List SK) (x : Nat → Int) : TV :=
  match b with
  | true => .v (.agg (mkF x 0 ks))
  | false => match mkF x 0 ks with
    | [a] => .v (.s a)
    | _ => .any

theorem mkF_eq : ∀ {ks : List SK} {xs : List Int} {x : Nat → Int} {i : Nat}, wfsK ks xs → (∀ j a, xs[j]? = some a → x (i + j) = a) → mkF x i ks = mksK ks xs
  | [], [], _, _, _, _ => rfl
  | k :: ks, y :: ys, x, i, h, hx => by
    have e1 : x i = y := hx 0 y rfl
    have e2 : mkF x (i + 1) ks = mksK ks ys := mkF_eq h.2 fun j a ha => by
      rw [show i + 1 + j = i + (j + 1) by omega]
      exact hx (j + 1) a (by simpa using ha)
    simp only [mkF, mksK, e1, e2]
  | [], _ :: _, _, _, h, _ => h.elim
  | _ :: _, [], _, _, h, _ => h.elim

theorem wfsK_at : ∀ {ks : List SK} {xs : List Int} {i : Nat} {k : SK}, wfsK ks xs → ks[i]? = some k → wfS k (xs.getD i 0)
  | k :: ks, y :: ys, 0, k', h, hi => by simp at hi; subst hi; exact h.1
  | k :: ks, y :: ys, i + 1, k', h, hi => by simpa using wfsK_at h.2 (by simpa using hi)
  | [], _, i, _, _, hi => by simp at hi
  | _ :: _, [], _, _, h, _ => h.elim

/-- An argument of a flat type, by its numbers. -/
theorem open_flatF {W : World} {base base' : Nat} {sp : Nat → Bool} {held : Bool} {t : TypeId} {ks : List SK} {b : Bool} {v : Value} {dd : DataW H} {ps : List MemPlace} {n : Nat} (hk : flatK P n t = some ks) (hb : aggT P t = some b)
    (hok : Value.okWide P W .any base' t v) (ht : DataW.Trod enc P W base sp held t v dd ps) : ∃ x : Nat → Int, (∀ (i : Nat) k, ks[i]? = some k → wfS k (x i)) ∧ ∀ φ, relT φ (argF b ks x) v := by
  obtain ⟨xs, hw, hr⟩ := open_flat hk hb hok ht
  refine ⟨fun i => xs.getD i 0, fun i k hi => wfsK_at hw hi, fun φ => ?_⟩
  have e : mkF (fun i => xs.getD i 0) 0 ks = mksK ks xs := mkF_eq hw fun j a ha => by simp [List.getD, ha]
  have := hr φ
  unfold argF
  rw [e]
  exact this

theorem below_of_ext {W W' : World} {φ : Phi} {Hp : AH} {φ' : Phi} {H' : AH} (hno : ∀ (id : Nat) (B : Blk), Hp[id]? = some (some B) → B.mut = false) (h : Ext φ Hp W φ' H' W') : Below W.heap.size W W' :=
  ⟨h.os, h.tape, h.output, h.size, fun k hk => h.frame k hk fun id B L h1 h2 => by rw [hno id B h1] at h2; cases h2⟩

theorem keptBut_of_below {W W' : World} (h : Below W.heap.size W W') (may : MemPlace → Prop) : W.keptBut W' may := by
  refine ⟨h.os, h.output, fun i hi => ?_⟩
  rw [h.block i hi]
  cases W.heap[i]? with
  | none => rfl
  | some o => cases o <;> first | exact ⟨rfl, rfl, rfl, fun _ _ => rfl⟩ | exact .inr ⟨rfl, rfl⟩ | rfl

theorem frozen_of_below {W W' : World} (h : Below W.heap.size W W') {a : Addr} (ha : a.block < W.heap.size) : W'.frozen? a = W.frozen? a := by
  simp [World.frozen?, h.block _ ha]

theorem trodAll_stays (hl : laidOutB P = true) {W W' : World} (hb : Below W.heap.size W W') {sp : Nat → Bool} : ∀ {ts : List TypeId} {vs : List Value} {ds : List (DataW H)} {ps : List MemPlace}, (∀ t ∈ ts, P.readableRec t = true ∧ t < P.types.size) →
    DataW.TrodAll enc P W 0 (fun _ => true) true ts vs ds ps → (∀ p ∈ ps, p.block < W.heap.size) → (∀ p ∈ ps, sp p.block = true) → DataW.TrodAll enc P W' 0 sp true ts vs ds ps
  | [], [], [], _, _, h, _, _ => h
  | t :: ts, v :: vs, d :: ds, _, ht, ⟨p, q, h1, h2, e⟩, hlt, hs => by
    subst e
    refine ⟨p, q, WideElems.Trod_stays hl (ht t (by simp)).1 (ht t (by simp)).2 h1 (fun x hx => hb.same (hlt x (by simp [hx]))) (fun x hx => hs x (by simp [hx])), ?_, rfl⟩
    exact trodAll_stays hl hb (fun t ht' => ht t (by simp [ht'])) h2 (fun x hx => hlt x (by simp [hx])) (fun x hx => hs x (by simp [hx]))
  | [], [], _ :: _, _, _, h, _, _ => h.elim
  | [], _ :: _, _, _, _, h, _, _ => h.elim
  | _ :: _, [], _, _, _, h, _, _ => h.elim
  | _ :: _, _ :: _, [], _, _, h, _, _ => h.elim

theorem trodAll_len {W : World} {base : Nat} {sp : Nat → Bool} {held : Bool} : ∀ {ts : List TypeId} {vs : List Value} {ds : List (DataW H)} {ps : List MemPlace}, DataW.TrodAll enc P W base sp held ts vs ds ps → ds.length = ts.length ∧ vs.length = ts.length
  | [], [], [], _, _ => ⟨rfl, rfl⟩
  | _ :: _, _ :: _, _ :: _, _, ⟨p, q, h1, h2, e⟩ => by simp [trodAll_len h2]
  | [], [], _ :: _, _, h => h.elim
  | [], _ :: _, _, _, h => h.elim
  | _ :: _, [], _, _, h => h.elim
  | _ :: _, _ :: _, [], _, h => h.elim

/-- A law's row, but for its closed facts: where the call comes to 'true' and leaves what was there. -/
theorem law_lifted {C : Checked} {os : Os} {f : FuncId} {fn : Func} {s : ChangeSpec} {tb : TypeId} (own : ownKnob C.prog.godebug = none) (started : os.Started) (noInit : C.prog.inits.idxOf? f = none) (hfn : C.prog.funcs[f]? = some fn)
    (hl : laidOutB C.prog = true) (hps : (fn.params.toList.all fun t => C.prog.readableRec t && decide (t < C.prog.types.size)) = true) (hres : fn.resultTypes = #[tb]) (hub : C.prog.underlying tb = some .bool) (hv : s.vars = [])
    (hs : ∀ (ds : List (DataW H)), ds.length = fn.params.toList.length → s.fn H ds = { results := [.lit (.bool true)], args := ds })
    (witness : ∃ (w : World) (tape : Tape) (i : Input), w.os = os ∧ (w.forCall tape i).Shaped C.prog ∧ i.vars = [] ∧ Input.okWide C.prog (w.forCall tape i) .any w.heap.size f i ∧
      s.pre6 enc C.prog fn [] false (w.forCall tape i).memory i.args ∧ ({} : Assume).holds C.prog (lone (Frame.enter C.prog f i.args .normal) [] (w.forCall tape i)))
    (hcall : ∀ (W : World) (base : Nat) (args : List Value) (ds : List (DataW H)) (ps : List MemPlace), (∀ (j : Nat) t v, fn.params.toList[j]? = some t → args[j]? = some v → Value.okWide C.prog W .any base t v) →
      DataW.TrodAll enc C.prog W 0 (fun _ => true) true fn.params.toList args ds ps → Calls C.prog f args.toArray W fun e W' => e = .returned (.bool true) ∧ Below W.heap.size W W') :
    ReturnsInHanded {} C os f .any (s.pre6 enc C.prog fn [] false) (s.post enc C.prog fn false true false false) := by
  refine returnsInHanded_of_change (C := C) own started noInit hfn witness ?_
  intro W base args ds gs before hval hW hcnd _
  have hW' := hW
  obtain ⟨p, q, hA, hV, hpq, hfz, hnd⟩ := hW
  rw [hv] at hV
  obtain ⟨rfl, rfl⟩ := trodVars_none hV
  simp only [List.append_nil] at hpq
  subst hpq
  have hlt : ∀ x ∈ before, x.block < W.heap.size := fun x hx => by simpa using hW'.lt x hx
  have hts : ∀ t ∈ fn.params.toList, C.prog.readableRec t = true ∧ t < C.prog.types.size := by
    intro t ht
    have := List.all_eq_true.1 hps t ht
    simpa using this
  obtain ⟨hdl, hal⟩ := trodAll_len hA
  have hc := hcall W base args.toList ds before (fun j t v h1 h2 => hval j t v (by simpa using h1) (by simpa using h2)) hA
  rw [Array.toArray_toList] at hc
  refine hc.mono fun e W' ⟨he, hb⟩ => ⟨.bool true, he, ?_⟩
  have hsd : s.fn H (ds ++ []) = { results := [.lit (.bool true)], args := ds } := by rw [List.append_nil]; exact hs ds hdl
  have hold : ∀ p ∈ before, (fun b => decide (b < W.heap.size)) p.block = true := fun p hp => by simpa using hlt p hp
  refine ⟨ds, [], before, [], before, [], hW', ?_, ?_, ?_, keptBut_of_below hb _, fun h => by cases h⟩
  · rw [hsd, hres]
    exact trodAll_mk1 (shut_bool hub _)
  · rw [hsd]
    exact trodAll_stays hl hb hts hA hlt hold
  · rw [hsd, hv]
    rfl
end
end Go.AM
