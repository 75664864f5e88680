/-
  The abstract machine, part 23: summaries of functions that are told of their own memory.
-/
import Derived.Test.YtepdekambalmhaaAnM
import Derived.Test.YtepdekambalmhaaAn6
namespace Go.AM
open Go.RowKit

/-- What is handed back and what is left, laid into a shape. -/
def leafO (k : Nat) (osh : FSh) (r : TV × AH) : Tr (List At) :=
  match takeF k osh [r.1] r.2 with
  | some (_, l) => .ok l
  | none => .no

def locF (ish osh : FSh) (T : List At → Tr (List At)) (args : List TV) (H : AH) : Tr (TV × AH) :=
  match takeF 0 ish args H with
  | some (σ, l) => (T l).bind fun l' => match mkV osh l' with
    | [v] => match renT σ H.length v, globH σ ish.hp H (mkH osh l') with
      | some v', some H' => forceL H' fun H' => .ok (v', H')
      | _, _ => .no
    | _ => .no
  | none => .no

def locR (ish osh : FSh) (T : List At → Tr (List At)) (args : List TV) (H : AH) : Tr TV :=
  match takeF 0 ish args H with
  | some (_, l) => (T l).bind fun l' => match mkV osh l' with
    | [v] => match closedT v with
      | true => .ok v
      | false => .no
    | _ => .no
  | none => .no

theorem locR_mono {ish osh : FSh} {T : List At → Tr (List At)} {args : List TV} {H : AH} {B : Option Blk} {tv : TV} (h : (locR ish osh T args H).val = some tv) : (locR ish osh T args (H ++ [B])).val = some tv := by
  unfold locR at h ⊢
  cases ht : takeF 0 ish args H with
  | none => rw [ht] at h; simp [Tr.val] at h
  | some r =>
    obtain ⟨σ, l⟩ := r
    rw [ht] at h
    rw [takeF_mono ht]
    exact h

def locP (ish osh : FSh) (T : List At → Tr (List At)) (args : List TV) : Tr TV :=
  match args.all closedT with
  | true => locR ish osh T args []
  | false => .no

theorem mkH_length {sh : FSh} {l : List At} : (mkH sh l).length = sh.hp.length := mkBs_length

theorem mkBs_mut {ns : List Nat} {l : List At} : ∀ {r : List BSh} {i j : Nat} {B : Blk}, (mkBs ns l i r)[j]? = some (some B) → ∃ b, r[j]? = some b ∧ b.mut = B.mut
  | [], i, j, B, h => by simp [mkBs] at h
  | b :: r, i, j, B, h => by
    cases j with
    | zero =>
      simp only [mkBs, List.getElem?_cons_zero, Option.some.injEq] at h
      refine ⟨b, rfl, ?_⟩
      cases b <;> simp [mkB] at h <;> subst h <;> rfl
    | succ j => simpa using mkBs_mut (r := r) (j := j) (by simpa [mkBs] using h)

section
variable {P : Program} {Γ : Specs} {sy : Nat → Option Nat} {Lp : Loops} {fuel : Nat}

/-- A call of a function whose arguments and memory are of a shape. -/
theorem calls_loc (hΓ : SpecOK P Γ) (hm : P.follows .mixedOrders = true) {f : FuncId} {fn : Func} (hf : P.funcs[f]? = some fn) (ish osh : FSh) (hL : LoopsFn P ish.hp.length Lp fn) {l r : List At}
    (hT : ∃ r', ((call P Γ sy Lp fuel fn (mkV ish l) (mkH ish l)).bind (leafO ish.hp.length osh)).val = some r' ∧ AtsEq r' r) {φ0 : Phi} {w : World} {args : List Value} (hrep : Rep φ0 (mkH ish l) w.heap) (hargs : All2 (relT φ0) (mkV ish l) args) :
    Calls P f args.toArray w fun e w' => ∃ v φ2, e = .returned v ∧ All2 (relT φ2) (mkV osh r) [v] ∧ Rep φ2 (mkH osh r) w'.heap ∧ Ext φ0 (mkH ish l) w φ2 (mkH osh r) w' ∧ ∀ j, j < ish.hp.length → φ2[j]? = φ0[j]? := by
  obtain ⟨r', hr', heq⟩ := hT
  rw [Tr.val_bind] at hr'
  obtain ⟨⟨tv, H1⟩, h1, h2⟩ := Option.bind_eq_some_iff.1 hr'
  refine (calls_am (φ := φ0) (H := mkH ish l) hΓ hm hf (by rw [mkH_length]; exact hL) hargs hrep (R := fun a b => a = tv ∧ b = H1) ⟨(tv, H1), h1, rfl, rfl⟩).mono ?_
  rintro e w' ⟨v, φ1, tv1, H1', rfl, ⟨rfl, rfl⟩, g2, g3, g4⟩
  unfold leafO at h2
  split at h2
  · rename_i σ l2 ht
    have := val_ok h2
    subst this
    have hk : ish.hp.length = (mkH ish l).length := mkH_length.symm
    simp only at ht
    rw [hk] at ht
    obtain ⟨φ2, k1, k2, k3, k4⟩ := ext_take ht hrep.len g4 g3 (vs := [v]) ⟨g2, trivial⟩
    exact ⟨v, φ2, rfl, by rw [← mkV_eq heq]; exact k2, rep_eq k1 (mkH_eq heq osh), ext_eq k3 (mkH_eq heq osh), fun j hj => k4 j (by rw [mkH_length]; exact hj)⟩
  · simp [Tr.val] at h2

theorem spec_loc (hΓ : SpecOK P Γ) (hm : P.follows .mixedOrders = true) {f : FuncId} {fn : Func} (hf : fnOk P f fn) (ish osh : FSh) (hL : LoopsFn P ish.hp.length Lp fn) {T : List At → Tr (List At)}
    (hT : ∀ l r, (T l).val = some r → ∃ r', ((call P Γ sy Lp fuel fn (mkV ish l) (mkH ish l)).bind (leafO ish.hp.length osh)).val = some r' ∧ AtsEq r' r) : SpecF P f (.eff (locF ish osh T)) := by
  refine .inr ⟨⟨fn, hf⟩, fun φ H w targs args tv H' happ hrep hargs => ?_, trivial⟩
  simp only [Spec.app] at happ
  unfold locF at happ
  split at happ
  · rename_i σ l ht
    rw [Tr.val_bind] at happ
    obtain ⟨r, hr, happ⟩ := Option.bind_eq_some_iff.1 happ
    split at happ
    · rename_i v0 hv0
      split at happ
      · rename_i v' H1 hren hglob
        rw [forceL_eq] at happ
        have happ := val_ok happ
        simp only [Prod.mk.injEq] at happ
        obtain ⟨rfl, rfl⟩ := happ
        obtain ⟨φ0, e1, e2, e3, _, e5⟩ := takeF_sound ht hrep (Nat.zero_le _) hargs
        refine (calls_loc hΓ hm hf.1 ish osh hL (hT l r hr) e2 e3).mono ?_
        rintro e w' ⟨v, φ2, rfl, g1, g2, g3, g4⟩
        rw [hv0] at g1
        obtain ⟨k1, k2, k3⟩ := frame_back hrep e1 e5 (fun j B hB => mkBs_mut hB) g2 g3 hglob
        refine ⟨v, φ ++ φ2, rfl, renT_rel k3 (by rw [hrep.len]; exact hren) g1.1, k1, k2⟩
      · simp [Tr.val] at happ
    · simp [Tr.val] at happ
  · simp [Tr.val] at happ

theorem loc_read (hΓ : SpecOK P Γ) (hm : P.follows .mixedOrders = true) {f : FuncId} {fn : Func} (hf : fnOk P f fn) (ish osh : FSh) (hro : (ish.hp.all fun b => !b.mut) = true) (hL : LoopsFn P ish.hp.length Lp fn) {T : List At → Tr (List At)}
    (hT : ∀ l r, (T l).val = some r → ∃ r', ((call P Γ sy Lp fuel fn (mkV ish l) (mkH ish l)).bind (leafO ish.hp.length osh)).val = some r' ∧ AtsEq r' r)
    {φ : Phi} {H : AH} {w : World} {targs : List TV} {args : List Value} {tv : TV} (happ : (locR ish osh T targs H).val = some tv) (hrep : Rep φ H w.heap) (hargs : All2 (relT φ) targs args) :
    Calls P f args.toArray w fun e w' => ∃ v, e = .returned v ∧ (∀ ψ, relT ψ tv v) ∧ (∀ b, b < w.heap.size → w'.heap[b]? = w.heap[b]?) ∧ w.heap.size ≤ w'.heap.size ∧ w'.os = w.os ∧ w'.output = w.output ∧ w'.tape = w.tape := by
  unfold locR at happ
  split at happ
  · rename_i σ l ht
    rw [Tr.val_bind] at happ
    obtain ⟨r, hr, happ⟩ := Option.bind_eq_some_iff.1 happ
    split at happ
    · rename_i v0 hv0
      split at happ
      · rename_i hc
        have := val_ok happ
        subst this
        obtain ⟨φ0, e1, e2, e3, _, e5⟩ := takeF_sound ht hrep (Nat.zero_le _) hargs
        refine (calls_loc hΓ hm hf.1 ish osh hL (hT l r hr) e2 e3).mono ?_
        rintro e w' ⟨v, φ2, rfl, g1, g2, g3, g4⟩
        rw [hv0] at g1
        refine ⟨v, rfl, fun ψ => closedT_rel hc g1.1, fun b hb => g3.frame b hb fun id B L h1 h2 h3 h4 => ?_, g3.size, g3.os, g3.output, g3.tape⟩
        obtain ⟨bb, k1, k2⟩ := mkBs_mut h1
        have := List.all_eq_true.1 hro bb (List.mem_of_getElem? k1)
        rw [k2, h2] at this
        cases this
      · simp [Tr.val] at happ
    · simp [Tr.val] at happ
  · simp [Tr.val] at happ

theorem spec_read (hΓ : SpecOK P Γ) (hm : P.follows .mixedOrders = true) {f : FuncId} {fn : Func} (hf : fnOk P f fn) (ish osh : FSh) (hro : (ish.hp.all fun b => !b.mut) = true) (hL : LoopsFn P ish.hp.length Lp fn) {T : List At → Tr (List At)}
    (hT : ∀ l r, (T l).val = some r → ∃ r', ((call P Γ sy Lp fuel fn (mkV ish l) (mkH ish l)).bind (leafO ish.hp.length osh)).val = some r' ∧ AtsEq r' r) : SpecF P f (.read (locR ish osh T)) := by
  refine .inr ⟨⟨fn, hf⟩, fun φ H w targs args tv H' happ hrep hargs => ?_, fun targs H tv B h => locR_mono h⟩
  simp only [Spec.app, Tr.val_bind, Option.bind_eq_some_iff] at happ
  obtain ⟨tv', hF, happ⟩ := happ
  have happ := val_ok happ
  simp only [Prod.mk.injEq] at happ
  obtain ⟨rfl, rfl⟩ := happ
  refine (loc_read hΓ hm hf ish osh hro hL hT hF hrep hargs).mono ?_
  rintro e w' ⟨v, rfl, g1, g2, g3, g4, g5, g6⟩
  exact ⟨v, φ, rfl, g1 φ, hrep.of_heap g2, ⟨⟨g3, ⟨[], by simp⟩, fun b hb _ => g2 b hb, fun i B L _ h1 h2 h3 => .inr ⟨i, B, L, h1, h2, h3, fun h => h⟩⟩, g4, g5, g6⟩⟩

theorem spec_locP (hΓ : SpecOK P Γ) (hm : P.follows .mixedOrders = true) {f : FuncId} {fn : Func} (hf : fnOk P f fn) (ish osh : FSh) (hro : ish.hp = []) (hL : LoopsFn P 0 Lp fn) {T : List At → Tr (List At)}
    (hT : ∀ l r, (T l).val = some r → ∃ r', ((call P Γ sy Lp fuel fn (mkV ish l) (mkH ish l)).bind (leafO ish.hp.length osh)).val = some r' ∧ AtsEq r' r) : SpecF P f (.pure (locP ish osh T)) := by
  refine .inr ⟨⟨fn, hf⟩, fun φ H w targs args tv H' happ hrep hargs => ?_, trivial⟩
  simp only [Spec.app, Tr.val_bind, Option.bind_eq_some_iff] at happ
  obtain ⟨tv', hF, happ⟩ := happ
  have happ := val_ok happ
  simp only [Prod.mk.injEq] at happ
  obtain ⟨rfl, rfl⟩ := happ
  unfold locP at hF
  split at hF
  · rename_i hcl
    refine (loc_read (φ := []) (H := []) hΓ hm hf ish osh (by rw [hro]; rfl) (by rw [hro]; exact hL) hT hF (rep_nil _) (all_closed (R := relT) (fun a v => closedT_rel) hcl hargs)).mono ?_
    rintro e w' ⟨v, rfl, g1, g2, g3, g4, g5, g6⟩
    exact ⟨v, φ, rfl, g1 φ, hrep.of_heap g2, ⟨⟨g3, ⟨[], by simp⟩, fun b hb _ => g2 b hb, fun i B L _ h1 h2 h3 => .inr ⟨i, B, L, h1, h2, h3, fun h => h⟩⟩, g4, g5, g6⟩⟩
  · simp [Tr.val] at hF

/-- As 'hT', where the equation is told. -/
theorem hT_of {fn : Func} {ish osh : FSh} {T T' : List At → Tr (List At)} (e : ∀ l, (call P Γ sy Lp fuel fn (mkV ish l) (mkH ish l)).bind (leafO ish.hp.length osh) = T l) (h : ∀ l r, (T' l).val = some r → ∃ r', (T l).val = some r' ∧ AtsEq r' r) :
    ∀ l r, (T' l).val = some r → ∃ r', ((call P Γ sy Lp fuel fn (mkV ish l) (mkH ish l)).bind (leafO ish.hp.length osh)).val = some r' ∧ AtsEq r' r := fun l r hr => by
  obtain ⟨r', h1, h2⟩ := h l r hr
  exact ⟨r', by rw [e l]; exact h1, h2⟩
end
end Go.AM
