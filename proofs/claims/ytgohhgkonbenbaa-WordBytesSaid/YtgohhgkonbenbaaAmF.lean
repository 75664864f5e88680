/-
  The abstract machine, part 15: a function's ways laid together: what it hands back as one value of its arguments' numbers.
-/
import Derived.Test.YtgohhgkonbenbaaAmE
namespace Go.AM

/-! ### arguments of known kinds -/

def nOf : Option AS → Int
  | some (.n _ x) => x
  | _ => 0

def bOf : Option AS → Bool
  | some (.b x) => x
  | _ => false

def gN (l : List AS) (i : Nat) : Int := nOf l[i]?
def gB (l : List AS) (i : Nat) : Bool := bOf l[i]?

def okS : AS → SK → Bool
  | .b _, .b => true
  | .n k _, .n k' => decide (k = k')
  | _, _ => false

def okSs : List AS → List SK → Bool
  | [], [] => true
  | a :: as, k :: ks => match okS a k with
    | true => okSs as ks
    | false => false
  | _, _ => false

def flatA : List AV → List AS
  | [] => []
  | .s a :: r => a :: flatA r
  | .agg l :: r => l ++ flatA r

abbrev Sig := List (Bool × List SK)

def okAV : AV → Bool × List SK → Bool
  | .s a, (false, ks) => okSs [a] ks
  | .agg l, (true, ks) => okSs l ks
  | _, _ => false

def okAVs : List AV → Sig → Bool
  | [], [] => true
  | a :: as, k :: ks => match okAV a k with
    | true => okAVs as ks
    | false => false
  | _, _ => false

/-- What stands in a value, in order. -/
def mkS' (l : List AS) (i : Nat) : SK → AS
  | .b => .b (gB l i)
  | .n k => .n k (gN l i)

def mkSs (l : List AS) : Nat → List SK → List AS
  | _, [] => []
  | i, k :: ks => mkS' l i k :: mkSs l (i + 1) ks

def mkAV (l : List AS) (i : Nat) : Bool × List SK → AV
  | (true, ks) => .agg (mkSs l i ks)
  | (false, k :: _) => .s (mkS' l i k)
  | (false, []) => .agg []

def mkAVs (l : List AS) : Nat → Sig → List AV
  | _, [] => []
  | i, k :: ks => mkAV l i k :: mkAVs l (i + k.2.length) ks

theorem mkS_at {a : AS} {k : SK} {l : List AS} {i : Nat} (h : okS a k = true) (hl : l[i]? = some a) : mkS' l i k = a := by
  cases k <;> cases a <;> simp_all [okS, mkS', gN, gB, nOf, bOf]

theorem mkSs_at : ∀ {as : List AS} {ks : List SK} {l : List AS} {i : Nat}, okSs as ks = true → (∀ j a, as[j]? = some a → l[i + j]? = some a) → mkSs l i ks = as
  | [], [], _, _, _, _ => rfl
  | a :: as, k :: ks, l, i, h, hl => by
    simp only [okSs] at h
    cases hk : okS a k with
    | false => simp [hk] at h
    | true =>
      simp only [hk] at h
      have e1 : mkS' l i k = a := mkS_at hk (hl 0 a rfl)
      have e2 : mkSs l (i + 1) ks = as := mkSs_at h fun j b hj => by
        have e3 := hl (j + 1) b (by simpa using hj)
        rw [show i + 1 + j = i + (j + 1) by omega]
        exact e3
      simp only [mkSs, e1, e2]
  | [], _ :: _, _, _, h, _ => by simp [okSs] at h
  | _ :: _, [], _, _, h, _ => by simp [okSs] at h

theorem okSs_len : ∀ {as : List AS} {ks : List SK}, okSs as ks = true → as.length = ks.length
  | [], [], _ => rfl
  | a :: as, k :: ks, h => by
    simp only [okSs] at h
    cases hk : okS a k with
    | false => simp [hk] at h
    | true => simp only [hk] at h; simp [okSs_len h]
  | [], _ :: _, h => by simp [okSs] at h
  | _ :: _, [], h => by simp [okSs] at h

theorem mkAV_at {a : AV} {k : Bool × List SK} {l : List AS} {i : Nat} (h : okAV a k = true) (hl : ∀ j s, (flatA [a])[j]? = some s → l[i + j]? = some s) : mkAV l i k = a ∧ (flatA [a]).length = k.2.length := by
  obtain ⟨b, ks⟩ := k
  cases a with
  | s a =>
    cases b with
    | true => simp [okAV] at h
    | false =>
      have hlen := okSs_len h
      match ks, hlen with
      | [k], _ =>
        have hk : okS a k = true := by
          cases hk : okS a k with
          | true => rfl
          | false => simp [okAV, okSs, hk] at h
        exact ⟨by simp only [mkAV]; rw [mkS_at hk (by simpa using hl 0 a rfl)], rfl⟩
  | agg as =>
    cases b with
    | false => simp [okAV] at h
    | true =>
      have h' : okSs as ks = true := h
      exact ⟨by simp only [mkAV]; rw [mkSs_at h' (fun j s hj => hl j s (by simpa [flatA] using hj))], by simpa [flatA] using okSs_len h'⟩

theorem flatA_cons (a : AV) (as : List AV) : flatA (a :: as) = flatA [a] ++ flatA as := by cases a <;> simp [flatA]

theorem mkAVs_at : ∀ {as : List AV} {ks : Sig} {l : List AS} {i : Nat}, okAVs as ks = true → (∀ j s, (flatA as)[j]? = some s → l[i + j]? = some s) → mkAVs l i ks = as
  | [], [], _, _, _, _ => rfl
  | a :: as, k :: ks, l, i, h, hl => by
    simp only [okAVs] at h
    cases hk : okAV a k with
    | false => simp [hk] at h
    | true =>
      simp only [hk] at h
      have hfl : ∀ j s, (flatA [a])[j]? = some s → l[i + j]? = some s := fun j s hj => hl j s (by
        rw [flatA_cons, List.getElem?_append_left (by obtain ⟨h, _⟩ := List.getElem?_eq_some_iff.1 hj; exact h)]; exact hj)
      obtain ⟨e1, e2⟩ := mkAV_at hk hfl
      simp only [mkAVs, e1]
      rw [mkAVs_at h (fun j s hj => by
        have := hl ((flatA [a]).length + j) s (by rw [flatA_cons, List.getElem?_append_right (by omega)]; simpa using hj)
        rw [← this, e2]; congr 1; omega)]
  | [], _ :: _, _, _, h, _ => by simp [okAVs] at h
  | _ :: _, [], _, _, h, _ => by simp [okAVs] at h

/-! closed by kind -/

theorem closed_okS {a : AS} {k : SK} (h : okS a k = true) : closedS a = true := by cases a <;> cases k <;> simp_all [okS, closedS]
theorem closed_okSs : ∀ {as : List AS} {ks : List SK}, okSs as ks = true → as.all closedS = true
  | [], [], _ => rfl
  | a :: as, k :: ks, h => by
    simp only [okSs] at h
    cases hk : okS a k with
    | false => simp [hk] at h
    | true => simp only [hk] at h; simp only [List.all_cons, closed_okS hk, closed_okSs h, Bool.and_self]
  | [], _ :: _, h => by simp [okSs] at h
  | _ :: _, [], h => by simp [okSs] at h
theorem closed_okAV {a : AV} {k : Bool × List SK} (h : okAV a k = true) : closedA a = true := by
  obtain ⟨b, ks⟩ := k
  cases a with
  | s a => cases b with
    | true => simp [okAV] at h
    | false => have := closed_okSs (show okSs [a] ks = true from h); simpa [closedA] using this
  | agg as => cases b with
    | false => simp [okAV] at h
    | true => exact closed_okSs (show okSs as ks = true from h)
theorem closed_okAVs : ∀ {as : List AV} {ks : Sig}, okAVs as ks = true → as.all closedA = true
  | [], [], _ => rfl
  | a :: as, k :: ks, h => by
    simp only [okAVs] at h
    cases hk : okAV a k with
    | false => simp [hk] at h
    | true => simp only [hk] at h; simp only [List.all_cons, closed_okAV hk, closed_okAVs h, Bool.and_self]
  | [], _ :: _, h => by simp [okAVs] at h
  | _ :: _, [], h => by simp [okAVs] at h

/-! ### arguments of a call -/

def avs : List TV → Option (List AV)
  | [] => some []
  | .v a :: r => match avs r with
    | some as => some (a :: as)
    | none => none
  | _ => none

theorem avs_eq : ∀ {ts : List TV} {as : List AV}, avs ts = some as → ts = as.map .v
  | [], as, h => by simp [avs] at h; subst h; rfl
  | .v a :: r, as, h => by
    simp only [avs] at h
    cases hr : avs r with
    | none => simp [hr] at h
    | some as' => simp only [hr, Option.some.injEq] at h; subst h; simp [avs_eq hr]
  | .tup _ :: _, _, h => by simp [avs] at h
  | .any :: _, _, h => by simp [avs] at h
  | .k _ :: _, _, h => by simp [avs] at h

/-- Where the arguments are of these kinds: go on with what stands in them. -/
def guardA (sig : Sig) (ts : List TV) (G : List AS → Tr TV) : Tr TV :=
  match avs ts with
  | none => .no
  | some as => match okAVs as sig with
    | true => G (flatA as)
    | false => .no

theorem guardA_val {sig : Sig} {ts : List TV} {G : List AS → Tr TV} {tv : TV} (h : (guardA sig ts G).val = some tv) : ∃ l, ts = (mkAVs l 0 sig).map .v ∧ (G l).val = some tv ∧ ts.all closedT = true := by
  unfold guardA at h
  cases ha : avs ts with
  | none => simp [ha, Tr.val] at h
  | some as =>
    simp only [ha] at h
    cases ho : okAVs as sig with
    | false => simp [ho, Tr.val] at h
    | true =>
      simp only [ho] at h
      have e := avs_eq ha
      refine ⟨flatA as, ?_, h, ?_⟩
      · rw [mkAVs_at ho (fun j s hj => by simpa using hj)]; exact e
      · rw [e, List.all_map]
        have := closed_okAVs ho
        exact this

/-! ### ways laid together -/

inductive RSig where
  | one (k : Bool × List SK)
  | tup (ks : Sig)

def okR : TV → RSig → Bool
  | .v a, .one k => okAV a k
  | .tup as, .tup ks => okAVs as ks
  | _, _ => false

def flatR' : TV → List AS
  | .v a => flatA [a]
  | .tup as => flatA as
  | _ => []

def Tr.gN (i : Nat) : Tr TV → Int
  | .ok a => AM.gN (flatR' a) i
  | .br _ c t e => bif c then t.gN i else e.gN i
  | .no => 0

def Tr.gB (i : Nat) : Tr TV → Bool
  | .ok a => AM.gB (flatR' a) i
  | .br _ c t e => bif c then t.gB i else e.gB i
  | .no => false

/-- Is it inside of what is followed? -/
def Tr.fine {α : Type} : Tr α → Bool
  | .ok _ => true
  | .br _ c t e => bif c then t.fine else e.fine
  | .no => false

/-- Never outside, whatever the tests come to. -/
def Tr.whole {α : Type} : Tr α → Bool
  | .ok _ => true
  | .br _ _ t e => match t.whole with
    | true => e.whole
    | false => false
  | .no => false

def mS (T : Tr TV) (i : Nat) : SK → AS
  | .b => .b (T.gB i)
  | .n k => .n k (T.gN i)

def mSs (T : Tr TV) : Nat → List SK → List AS
  | _, [] => []
  | i, k :: ks => mS T i k :: mSs T (i + 1) ks

def mAV (T : Tr TV) (i : Nat) : Bool × List SK → AV
  | (true, ks) => .agg (mSs T i ks)
  | (false, k :: _) => .s (mS T i k)
  | (false, []) => .agg []

def mAVs (T : Tr TV) : Nat → Sig → List AV
  | _, [] => []
  | i, k :: ks => mAV T i k :: mAVs T (i + k.2.length) ks

def mR (T : Tr TV) : RSig → TV
  | .one k => .v (mAV T 0 k)
  | .tup ks => .tup (mAVs T 0 ks)

def merged (r : RSig) (T : Tr TV) : Tr TV :=
  match T.whole with
  | true => .ok (mR T r)
  | false => .br 0 T.fine (.ok (mR T r)) .no

theorem mS_congr {T T' : Tr TV} (hN : ∀ i, T.gN i = T'.gN i) (hB : ∀ i, T.gB i = T'.gB i) (i : Nat) (k : SK) : mS T i k = mS T' i k := by cases k <;> simp [mS, hN, hB]
theorem mSs_congr {T T' : Tr TV} (hN : ∀ i, T.gN i = T'.gN i) (hB : ∀ i, T.gB i = T'.gB i) : ∀ (i : Nat) (ks : List SK), mSs T i ks = mSs T' i ks
  | _, [] => rfl
  | i, k :: ks => by simp only [mSs, mS_congr hN hB, mSs_congr hN hB (i + 1) ks]
theorem mAV_congr {T T' : Tr TV} (hN : ∀ i, T.gN i = T'.gN i) (hB : ∀ i, T.gB i = T'.gB i) (i : Nat) : ∀ (k : Bool × List SK), mAV T i k = mAV T' i k
  | (true, _) => by simp only [mAV, mSs_congr hN hB]
  | (false, _ :: _) => by simp only [mAV, mS_congr hN hB]
  | (false, []) => rfl
theorem mAVs_congr {T T' : Tr TV} (hN : ∀ i, T.gN i = T'.gN i) (hB : ∀ i, T.gB i = T'.gB i) : ∀ (i : Nat) (ks : Sig), mAVs T i ks = mAVs T' i ks
  | _, [] => rfl
  | i, k :: ks => by simp only [mAVs, mAV_congr hN hB, mAVs_congr hN hB (i + k.2.length) ks]
theorem mR_congr {T T' : Tr TV} (hN : ∀ i, T.gN i = T'.gN i) (hB : ∀ i, T.gB i = T'.gB i) (r : RSig) : mR T r = mR T' r := by
  cases r <;> simp only [mR, mAV_congr hN hB, mAVs_congr hN hB]

theorem mS_ok (a : TV) (i : Nat) (k : SK) : mS (.ok a) i k = mkS' (flatR' a) i k := by cases k <;> rfl
theorem mSs_ok (a : TV) : ∀ (i : Nat) (ks : List SK), mSs (.ok a) i ks = mkSs (flatR' a) i ks
  | _, [] => rfl
  | i, k :: ks => by simp only [mSs, mkSs, mS_ok, mSs_ok a (i + 1) ks]
theorem mAV_ok (a : TV) (i : Nat) : ∀ (k : Bool × List SK), mAV (.ok a) i k = mkAV (flatR' a) i k
  | (true, _) => by simp only [mAV, mkAV, mSs_ok]
  | (false, _ :: _) => by simp only [mAV, mkAV, mS_ok]
  | (false, []) => rfl
theorem mAVs_ok (a : TV) : ∀ (i : Nat) (ks : Sig), mAVs (.ok a) i ks = mkAVs (flatR' a) i ks
  | _, [] => rfl
  | i, k :: ks => by simp only [mAVs, mkAVs, mAV_ok, mAVs_ok a (i + k.2.length) ks]

def okLeaf (r : RSig) (a : TV) : Bool := okR a r

theorem mR_ok {r : RSig} {a : TV} (h : okR a r = true) : mR (.ok a) r = a := by
  cases a <;> cases r <;> simp [okR] at h
  · rename_i a k
    simp only [mR, mAV_ok]
    exact congrArg TV.v (mkAV_at h (fun j s hj => by simpa [flatR'] using hj)).1
  · rename_i as ks
    simp only [mR, mAVs_ok]
    exact congrArg TV.tup (mkAVs_at h (fun j s hj => by simpa [flatR'] using hj))

theorem merged_val {r : RSig} : ∀ {T : Tr TV}, T.all (okLeaf r) = true → T.fine = true → T.val = some (mR T r)
  | .ok a, h, _ => by rw [mR_ok h]; rfl
  | .br g c t e, h, hf => by
    simp only [Tr.all, Bool.and_eq_true] at h
    cases c with
    | true =>
      simp only [Tr.fine, cond_true] at hf
      rw [mR_congr (T := .br g true t e) (T' := t) (fun _ => rfl) (fun _ => rfl)]
      exact merged_val h.1 hf
    | false =>
      simp only [Tr.fine, cond_false] at hf
      rw [mR_congr (T := .br g false t e) (T' := e) (fun _ => rfl) (fun _ => rfl)]
      exact merged_val h.2 hf
  | .no, _, hf => by simp [Tr.fine] at hf

theorem fine_of_whole {α : Type} : ∀ {T : Tr α}, T.whole = true → T.fine = true
  | .ok _, _ => rfl
  | .br g c t e, h => by
    simp only [Tr.whole] at h
    cases ht : t.whole with
    | false => simp [ht] at h
    | true => simp only [ht] at h; cases c <;> simp [Tr.fine, fine_of_whole ht, fine_of_whole h]
  | .no, h => by simp [Tr.whole] at h

theorem closed_okR {r : RSig} {a : TV} (h : okR a r = true) : closedT a = true := by
  cases a <;> cases r <;> simp [okR] at h
  · exact closed_okAV h
  · exact closed_okAVs h

section
variable {P : Program} {Γ : Specs} {sy : Nat → Option Nat} {Lp : Loops} {fuel : Nat}

/-- A pure function, its ways laid together. -/
theorem spec_merged (hΓ : SpecOK P Γ) (hm : P.follows .mixedOrders = true) {f : FuncId} {fn : Func} (hf : fnOk P f fn) (hL : LoopsFn P Lp fn) (sig : Sig) (r : RSig) {T : List AS → Tr TV} {F : List TV → Tr TV}
    (hT : ∀ l, callV P Γ sy Lp fuel fn ((mkAVs l 0 sig).map .v) [] = T l) (hk : ∀ l, (T l).all (okLeaf r) = true) (hF : ∀ ts, F ts = guardA sig ts fun l => merged r (T l)) : SpecF P f (.pure F) := by
  refine spec_pure (sy := sy) (fuel := fuel) hΓ hm hf hL fun targs tv hv => ?_
  rw [hF] at hv
  obtain ⟨l, e, hG, hc⟩ := guardA_val hv
  have hval : (T l).val = some tv := by
    unfold merged at hG
    cases hw : (T l).whole with
    | true =>
      simp only [hw] at hG
      have := val_ok hG
      subst this
      exact merged_val (hk l) (fine_of_whole hw)
    | false =>
      simp only [hw] at hG
      cases hfi : (T l).fine with
      | false => simp [hfi, Tr.val] at hG
      | true =>
        simp only [hfi, Tr.val] at hG
        obtain rfl := Option.some.inj hG
        exact merged_val (hk l) hfi
  refine ⟨hc, closed_okR (r := r) (Tr.all_val (p := okLeaf r) (hk l) hval), sat_of_callV ?_⟩
  rw [e, hT l]
  exact hval

/-- A pure function, its ways left apart. -/
theorem spec_ways (hΓ : SpecOK P Γ) (hm : P.follows .mixedOrders = true) {f : FuncId} {fn : Func} (hf : fnOk P f fn) (hL : LoopsFn P Lp fn) (sig : Sig) {T : List AS → Tr TV} {F : List TV → Tr TV}
    (hT : ∀ l, callV P Γ sy Lp fuel fn ((mkAVs l 0 sig).map .v) [] = T l) (hk : ∀ l, (T l).all closedT = true) (hF : ∀ ts, F ts = guardA sig ts T) : SpecF P f (.pure F) := by
  refine spec_pure (sy := sy) (fuel := fuel) hΓ hm hf hL fun targs tv hv => ?_
  rw [hF] at hv
  obtain ⟨l, e, hG, hc⟩ := guardA_val hv
  refine ⟨hc, Tr.all_val (hk l) hG, sat_of_callV ?_⟩
  rw [e, hT l]
  exact hG
end
end Go.AM
