/-
  What functions of the seat compute, printed by a program from the explorer.
-/
import Derived.Test.YtimdpdkgiibndaaDynToCl
import Derived.KernelRfl
import Derived.Test.YtimdpdkgiibndaaAn9ToAnR
section
namespace Go.Proofs.Ytimdpdkgiibndaa.G
open Go Go.AM Go.Proofs
/-! ### kind -/

noncomputable def ish_kind : FSh := ⟨[.v false [.k (.n .i64)], .v false [.k (.n .i64)]], []⟩
noncomputable def osh_kind : FSh := ⟨[.v false [.k (.n .i64)]], []⟩
noncomputable def T_kind (x0 : Int) (x1 : Int) : Tr (List At) :=
 .br 6 (Decidable.decide (x0 < (0 : Int)))
 (.br 12 (x1 != (0 : Int))
 (.ok [(.i (Int.tmod (Go.IntKind.wrap Go.IntKind.i64 ((0 : Int) - Go.IntKind.wrap Go.IntKind.i64 (x0 + (1 : Int)))) x1))])
 (.no))
 (.br 12 (x1 != (0 : Int))
 (.ok [(.i (Int.tmod x0 x1))])
 (.no))
noncomputable def y_kind : Nat → Option Nat := (syOf3 [6, 12] [] [])
noncomputable def TL_kind (l : List At) : Tr (List At) := T_kind (aI l 0) (aI l 1)
theorem e_kind (l : List At) : (call Try.prog Γ_cl y_kind noLoops 100 Try.f12 (mkV ish_kind l) (mkH ish_kind l)).bind (leafO 0 osh_kind) = TL_kind l := by kernel_rfl
noncomputable def r_kind_0 (x0 : Int) (x1 : Int) : Int :=
  bif Decidable.decide (x0 < (0 : Int)) then (bif x1 != (0 : Int) then (Int.tmod (Go.IntKind.wrap Go.IntKind.i64 ((0 : Int) - Go.IntKind.wrap Go.IntKind.i64 (x0 + (1 : Int)))) x1)
  else 0)
  else bif x1 != (0 : Int) then (Int.tmod x0 x1)
  else 0
noncomputable def ok_kind (x0 : Int) (x1 : Int) : Bool :=
  bif Decidable.decide (x0 < (0 : Int)) then (bif x1 != (0 : Int) then (true)
  else false)
  else bif x1 != (0 : Int) then (true)
  else false
noncomputable def F_kind : List At → Tr (List At) := fun l => .br 0 (ok_kind (aI l 0) (aI l 1)) (.ok [.i (r_kind_0 (aI l 0) (aI l 1))]) .no
theorem s_kind : SpecF Try.prog 12 (.pure (locP ish_kind osh_kind F_kind)) :=
  spec_locP (sy := y_kind) (fuel := 100) (Lp := noLoops) o_cl mixed ⟨Try.func12, by kernel_rfl, by kernel_rfl⟩ ish_kind osh_kind rfl (noLoops_ok _) (hT_merged [.i] e_kind (fun l => by kernel_rfl) (fun l => by kernel_rfl))
noncomputable def Γ_kind : Specs := upd Γ_cl 12 (.pure (locP ish_kind osh_kind F_kind))
theorem o_kind : SpecOK Try.prog Γ_kind := SpecOK.upd o_cl s_kind

/-! ### clone -/

noncomputable def ish_clone : FSh := ⟨[.v false [.p 0 0]], [.roc [.sw 1 5], .rows [.n .u64, .n .u64, .n .i64, .n .i64, .n .i64] false]⟩
noncomputable def osh_clone : FSh := ⟨[.v false [.p 2 0]], [.no, .no, .cells [.sw 3 5], .rows [.n .u64, .n .u64, .n .i64, .n .i64, .n .i64] true]⟩
noncomputable def T_clone (n0 : Nat) (g0 : Nat → Nat → Int) : Tr (List At) :=
 .br 0 (Decidable.decide (n0 ≤ (1073741824 : Nat)))
 (.ok [(.r (n0) (fun (j cc : Nat) => g0 ((0 : Nat) + j) cc))])
 (.no)
noncomputable def y_clone : Nat → Option Nat := (syOf3 [] [] [])
noncomputable def TL_clone (l : List At) : Tr (List At) := T_clone (aRn l 0) (aRg l 0)
theorem e_clone (l : List At) : (call Try.prog Γ_kind y_clone noLoops 100 Try.f14 (mkV ish_clone l) (mkH ish_clone l)).bind (leafO 2 osh_clone) = TL_clone l := by kernel_rfl
noncomputable def F_clone : List At → Tr (List At) := TL_clone
theorem s_clone : SpecF Try.prog 14 (.eff (locF ish_clone osh_clone F_clone)) :=
  spec_loc (sy := y_clone) (fuel := 100) (Lp := noLoops) o_kind mixed ⟨Try.func14, by kernel_rfl, by kernel_rfl⟩ ish_clone osh_clone (noLoops_ok _) (hT_ways e_clone)
noncomputable def Γ_clone : Specs := upd Γ_kind 14 (.eff (locF ish_clone osh_clone F_clone))
theorem o_clone : SpecOK Try.prog Γ_clone := SpecOK.upd o_kind s_clone

/-! ### the loop at 7 of TlbPlays -/

noncomputable def lsh_TlbPlays_7 : FSh := ⟨[.v false [.sq 0 6], .any, .any, .any, .v false [.p 1 0], .v false [.p 2 0], .v false [.k (.n .i64)], .any, .any, .any, .any, .any, .any, .any, .any, .any, .any, .any, .any, .any, .any, .any, .any, .any, .any, .any, .any, .any, .any, .any, .any, .any, .any, .any, .any, .any, .any, .any, .any, .any, .any, .any, .any, .any, .any, .any, .any, .any, .any, .any, .any, .any, .any, .any, .any, .any, .any, .any, .any, .any, .any, .any, .any, .any, .any, .any, .any, .any, .any, .any, .any, .any, .any, .any, .any, .any, .any, .any, .any, .any, .any, .any, .any, .any, .any, .any, .any, .any, .any, .any, .any, .any, .any, .any, .any, .any, .any, .any, .any, .any, .any, .any, .any, .any, .any, .any, .any, .any, .any, .any, .any, .any, .any, .any, .any, .any, .any, .any, .any, .any, .any, .any, .any, .any, .any, .any, .any, .any, .any, .any, .any, .any, .any, .any, .any, .any, .any, .any, .any, .any, .any, .any, .any, .any, .any, .any, .any, .any, .any, .any, .any, .any, .any, .any, .any, .any, .any, .any, .any, .any, .any, .any, .any, .any, .any, .any, .any, .any, .any, .any, .any, .any, .any, .any, .any], [.rows [.n .i64, .n .u64, .n .u64, .n .i64, .n .i64, .n .i64] false, .cells [.sw 3 5], .cells [.sw 4 5], .rows [.n .u64, .n .u64, .n .i64, .n .i64, .n .i64] true, .rows [.n .u64, .n .u64, .n .i64, .n .i64, .n .i64] true]⟩
noncomputable def xsh_TlbPlays_7_0 : FSh := ⟨[.any, .any, .any, .any, .v false [.p 1 0], .v false [.p 2 0], .any, .any, .any, .any, .any, .any, .any, .any, .any, .any, .any, .any, .any, .any, .any, .any, .any, .any, .any, .any, .any, .any, .any, .any, .any, .any, .any, .any, .any, .any, .any, .any, .any, .any, .any, .any, .any, .any, .any, .any, .any, .any, .any, .any, .any, .any, .any, .any, .any, .any, .any, .any, .any, .any, .any, .any, .any, .any, .any, .any, .any, .any, .any, .any, .any, .any, .any, .any, .any, .any, .any, .any, .any, .any, .any, .any, .any, .any, .any, .any, .any, .any, .any, .any, .any, .any, .any, .any, .any, .any, .any, .any, .any, .any, .any, .any, .any, .any, .any, .any, .any, .any, .any, .any, .any, .any, .any, .any, .any, .any, .any, .any, .any, .any, .any, .any, .any, .any, .any, .any, .any, .any, .any, .any, .any, .any, .any, .any, .any, .any, .any, .any, .any, .any, .any, .any, .any, .any, .any, .any, .any, .any, .any, .any, .any, .any, .any, .any, .any, .any, .any, .any, .any, .any, .any, .any, .any, .any, .any, .any, .any, .any, .any, .any, .any, .any, .any, .any, .any], [.no, .cells [.sw 3 5], .cells [.sw 4 5], .rows [.n .u64, .n .u64, .n .i64, .n .i64, .n .i64] true, .rows [.n .u64, .n .u64, .n .i64, .n .i64, .n .i64] true]⟩
noncomputable def xsh_TlbPlays_7_1 : FSh := ⟨[.any, .any, .v false [.k .b], .any, .any, .any, .any, .any, .any, .any, .any, .any, .any, .any, .any, .any, .any, .any, .any, .any, .any, .any, .any, .any, .any, .any, .any, .any, .any, .any, .any, .any, .any, .any, .any, .any, .any, .any, .any, .any, .any, .any, .any, .any, .any, .any, .any, .any, .any, .any, .any, .any, .any, .any, .any, .any, .any, .any, .any, .any, .any, .any, .any, .any, .any, .any, .any, .any, .any, .any, .any, .any, .any, .any, .any, .any, .any, .any, .any, .any, .any, .any, .any, .any, .any, .any, .any, .any, .any, .any, .any, .any, .any, .any, .any, .any, .any, .any, .any, .any, .any, .any, .any, .any, .any, .any, .any, .any, .any, .any, .any, .any, .any, .any, .any, .any, .any, .any, .any, .any, .any, .any, .any, .any, .any, .any, .any, .any, .any, .any, .any, .any, .any, .any, .any, .any, .any, .any, .any, .any, .any, .any, .any, .any, .any, .any, .any, .any, .any, .any, .any, .any, .any, .any, .any, .any, .any, .any, .any, .any, .any, .any, .any, .any, .any, .any, .any, .any, .any, .any, .any, .any, .any, .any, .any], [.no]⟩
noncomputable def xs_TlbPlays_7 : Exs := fun e => match e with
  | .normal => some lsh_TlbPlays_7
  | .exit n => (match Nat.beq n 0 with | true => some xsh_TlbPlays_7_0 | false => none)
  | .ret => some xsh_TlbPlays_7_1
noncomputable def TlbPlays_7_c0 (x0 : Nat) (x2 : Int) (g3 : Nat → Nat → Int) : Bool := Go.Proofs.Ytimdpdkgiibndaa.G.fndI (0 : Nat) (fun (_ _ : Nat) => (0 : Int)) (g3 (x0 + Int.toNat x2) (1 : Nat)) (g3 (x0 + Int.toNat x2) (2 : Nat)) (2 : Nat) == Go.Proofs.Ytimdpdkgiibndaa.G.fndI (0 : Nat) (fun (_ _ : Nat) => (0 : Int)) (g3 (x0 + Int.toNat x2) (1 : Nat)) (g3 (x0 + Int.toNat x2) (2 : Nat)) (2 : Nat) && (Go.Proofs.Ytimdpdkgiibndaa.G.fndI (0 : Nat) (fun (_ _ : Nat) => (0 : Int)) (g3 (x0 + Int.toNat x2) (1 : Nat)) (g3 (x0 + Int.toNat x2) (2 : Nat)) (3 : Nat) == Go.Proofs.Ytimdpdkgiibndaa.G.fndI (0 : Nat) (fun (_ _ : Nat) => (0 : Int)) (g3 (x0 + Int.toNat x2) (1 : Nat)) (g3 (x0 + Int.toNat x2) (2 : Nat)) (3 : Nat) && (Go.Proofs.Ytimdpdkgiibndaa.G.fndI (0 : Nat) (fun (_ _ : Nat) => (0 : Int)) (g3 (x0 + Int.toNat x2) (1 : Nat)) (g3 (x0 + Int.toNat x2) (2 : Nat)) (4 : Nat) == Go.Proofs.Ytimdpdkgiibndaa.G.fndI (0 : Nat) (fun (_ _ : Nat) => (0 : Int)) (g3 (x0 + Int.toNat x2) (1 : Nat)) (g3 (x0 + Int.toNat x2) (2 : Nat)) (4 : Nat) && Bool.true))
noncomputable def TlbPlays_7_c1 (x0 : Nat) (x2 : Int) (g3 : Nat → Nat → Int) : Bool := !(TlbPlays_7_c0 x0 x2 g3)
noncomputable def TlbPlays_7_c3  : Bool := Decidable.decide ((0 : Nat) ≤ (4611686018427387904 : Nat))
noncomputable def TlbPlays_7_c4 (x0 : Nat) (x2 : Int) (g3 : Nat → Nat → Int) (n4 : Nat) (g4 : Nat → Nat → Int) (n5 : Nat) (g5 : Nat → Nat → Int) : Bool := Go.Proofs.Ytimdpdkgiibndaa.G.fndI (Go.Proofs.Ytimdpdkgiibndaa.G.addN n4 g4 (g3 (x0 + Int.toNat x2) (1 : Nat)) (g3 (x0 + Int.toNat x2) (2 : Nat))) (fun (j cc : Nat) => Go.Proofs.Ytimdpdkgiibndaa.G.addG n4 g4 (g3 (x0 + Int.toNat x2) (1 : Nat)) (g3 (x0 + Int.toNat x2) (2 : Nat)) (g3 (x0 + Int.toNat x2) (3 : Nat)) (g3 (x0 + Int.toNat x2) (5 : Nat)) ((0 : Nat) + j) cc) (g3 (x0 + Int.toNat x2) (1 : Nat)) (g3 (x0 + Int.toNat x2) (2 : Nat)) (2 : Nat) == Go.Proofs.Ytimdpdkgiibndaa.G.fndI (Go.Proofs.Ytimdpdkgiibndaa.G.raN n5 g5 (g3 (x0 + Int.toNat x2) (1 : Nat)) (g3 (x0 + Int.toNat x2) (2 : Nat))) (Go.Proofs.Ytimdpdkgiibndaa.G.raG n5 g5 (g3 (x0 + Int.toNat x2) (1 : Nat)) (g3 (x0 + Int.toNat x2) (2 : Nat)) (g3 (x0 + Int.toNat x2) (3 : Nat)) (g3 (x0 + Int.toNat x2) (5 : Nat))) (g3 (x0 + Int.toNat x2) (1 : Nat)) (g3 (x0 + Int.toNat x2) (2 : Nat)) (2 : Nat)
noncomputable def TlbPlays_7_c5 (x0 : Nat) (x2 : Int) (g3 : Nat → Nat → Int) (n4 : Nat) (g4 : Nat → Nat → Int) (n5 : Nat) (g5 : Nat → Nat → Int) : Bool := Go.Proofs.Ytimdpdkgiibndaa.G.fndI (Go.Proofs.Ytimdpdkgiibndaa.G.addN n4 g4 (g3 (x0 + Int.toNat x2) (1 : Nat)) (g3 (x0 + Int.toNat x2) (2 : Nat))) (fun (j cc : Nat) => Go.Proofs.Ytimdpdkgiibndaa.G.addG n4 g4 (g3 (x0 + Int.toNat x2) (1 : Nat)) (g3 (x0 + Int.toNat x2) (2 : Nat)) (g3 (x0 + Int.toNat x2) (3 : Nat)) (g3 (x0 + Int.toNat x2) (5 : Nat)) ((0 : Nat) + j) cc) (g3 (x0 + Int.toNat x2) (1 : Nat)) (g3 (x0 + Int.toNat x2) (2 : Nat)) (3 : Nat) == Go.Proofs.Ytimdpdkgiibndaa.G.fndI (Go.Proofs.Ytimdpdkgiibndaa.G.raN n5 g5 (g3 (x0 + Int.toNat x2) (1 : Nat)) (g3 (x0 + Int.toNat x2) (2 : Nat))) (Go.Proofs.Ytimdpdkgiibndaa.G.raG n5 g5 (g3 (x0 + Int.toNat x2) (1 : Nat)) (g3 (x0 + Int.toNat x2) (2 : Nat)) (g3 (x0 + Int.toNat x2) (3 : Nat)) (g3 (x0 + Int.toNat x2) (5 : Nat))) (g3 (x0 + Int.toNat x2) (1 : Nat)) (g3 (x0 + Int.toNat x2) (2 : Nat)) (3 : Nat)
noncomputable def TlbPlays_7_c6 (x0 : Nat) (x2 : Int) (g3 : Nat → Nat → Int) (n4 : Nat) (g4 : Nat → Nat → Int) (n5 : Nat) (g5 : Nat → Nat → Int) : Bool := Go.Proofs.Ytimdpdkgiibndaa.G.fndI (Go.Proofs.Ytimdpdkgiibndaa.G.addN n4 g4 (g3 (x0 + Int.toNat x2) (1 : Nat)) (g3 (x0 + Int.toNat x2) (2 : Nat))) (fun (j cc : Nat) => Go.Proofs.Ytimdpdkgiibndaa.G.addG n4 g4 (g3 (x0 + Int.toNat x2) (1 : Nat)) (g3 (x0 + Int.toNat x2) (2 : Nat)) (g3 (x0 + Int.toNat x2) (3 : Nat)) (g3 (x0 + Int.toNat x2) (5 : Nat)) ((0 : Nat) + j) cc) (g3 (x0 + Int.toNat x2) (1 : Nat)) (g3 (x0 + Int.toNat x2) (2 : Nat)) (4 : Nat) == Go.Proofs.Ytimdpdkgiibndaa.G.fndI (Go.Proofs.Ytimdpdkgiibndaa.G.raN n5 g5 (g3 (x0 + Int.toNat x2) (1 : Nat)) (g3 (x0 + Int.toNat x2) (2 : Nat))) (Go.Proofs.Ytimdpdkgiibndaa.G.raG n5 g5 (g3 (x0 + Int.toNat x2) (1 : Nat)) (g3 (x0 + Int.toNat x2) (2 : Nat)) (g3 (x0 + Int.toNat x2) (3 : Nat)) (g3 (x0 + Int.toNat x2) (5 : Nat))) (g3 (x0 + Int.toNat x2) (1 : Nat)) (g3 (x0 + Int.toNat x2) (2 : Nat)) (4 : Nat)
noncomputable def TlbPlays_7_c7 (x0 : Nat) (x2 : Int) (g3 : Nat → Nat → Int) (n4 : Nat) (g4 : Nat → Nat → Int) (n5 : Nat) (g5 : Nat → Nat → Int) : Bool := (TlbPlays_7_c6 x0 x2 g3 n4 g4 n5 g5) && Bool.true
noncomputable def TlbPlays_7_c8 (x0 : Nat) (x2 : Int) (g3 : Nat → Nat → Int) (n4 : Nat) (g4 : Nat → Nat → Int) (n5 : Nat) (g5 : Nat → Nat → Int) : Bool := (TlbPlays_7_c5 x0 x2 g3 n4 g4 n5 g5) && (TlbPlays_7_c7 x0 x2 g3 n4 g4 n5 g5)
noncomputable def TlbPlays_7_c9 (x0 : Nat) (x2 : Int) (g3 : Nat → Nat → Int) (n4 : Nat) (g4 : Nat → Nat → Int) (n5 : Nat) (g5 : Nat → Nat → Int) : Bool := (TlbPlays_7_c4 x0 x2 g3 n4 g4 n5 g5) && (TlbPlays_7_c8 x0 x2 g3 n4 g4 n5 g5)
noncomputable def TlbPlays_7_c10 (x0 : Nat) (x2 : Int) (g3 : Nat → Nat → Int) (n4 : Nat) (g4 : Nat → Nat → Int) (n5 : Nat) (g5 : Nat → Nat → Int) : Bool := !(TlbPlays_7_c9 x0 x2 g3 n4 g4 n5 g5)
noncomputable def TlbPlays_7_c19 (x0 : Nat) (x2 : Int) (g3 : Nat → Nat → Int) (n5 : Nat) (g5 : Nat → Nat → Int) : Bool := Decidable.decide (Go.Proofs.Ytimdpdkgiibndaa.G.raN n5 g5 (g3 (x0 + Int.toNat x2) (1 : Nat)) (g3 (x0 + Int.toNat x2) (2 : Nat)) ≤ (4611686018427387904 : Nat))
noncomputable def TlbPlays_7_c30 (x0 : Nat) (x2 : Int) (g3 : Nat → Nat → Int) (n4 : Nat) (g4 : Nat → Nat → Int) : Bool := Decidable.decide (Go.Proofs.Ytimdpdkgiibndaa.G.addN n4 g4 (g3 (x0 + Int.toNat x2) (1 : Nat)) (g3 (x0 + Int.toNat x2) (2 : Nat)) ≤ (4611686018427387904 : Nat))
noncomputable def TlbPlays_7_c31 (x0 : Nat) (x2 : Int) (g3 : Nat → Nat → Int) (n4 : Nat) (g4 : Nat → Nat → Int) : Bool := Decidable.decide (Go.Proofs.Ytimdpdkgiibndaa.G.addN n4 g4 (g3 (x0 + Int.toNat x2) (1 : Nat)) (g3 (x0 + Int.toNat x2) (2 : Nat)) ≤ (1073741824 : Nat))
noncomputable def TlbPlays_7_c32 (x0 : Nat) (x2 : Int) (g3 : Nat → Nat → Int) (n4 : Nat) (g4 : Nat → Nat → Int) (n5 : Nat) (g5 : Nat → Nat → Int) : Bool := Go.Proofs.Ytimdpdkgiibndaa.G.fndI (Go.Proofs.Ytimdpdkgiibndaa.G.addN n4 g4 (g3 (x0 + Int.toNat x2) (1 : Nat)) (g3 (x0 + Int.toNat x2) (2 : Nat))) (Go.Proofs.Ytimdpdkgiibndaa.G.addG n4 g4 (g3 (x0 + Int.toNat x2) (1 : Nat)) (g3 (x0 + Int.toNat x2) (2 : Nat)) (g3 (x0 + Int.toNat x2) (3 : Nat)) (g3 (x0 + Int.toNat x2) (5 : Nat))) (g3 (x0 + Int.toNat x2) (1 : Nat)) (g3 (x0 + Int.toNat x2) (2 : Nat)) (3 : Nat) == Go.Proofs.Ytimdpdkgiibndaa.G.fndI (Go.Proofs.Ytimdpdkgiibndaa.G.raN n5 g5 (g3 (x0 + Int.toNat x2) (1 : Nat)) (g3 (x0 + Int.toNat x2) (2 : Nat))) (Go.Proofs.Ytimdpdkgiibndaa.G.raG n5 g5 (g3 (x0 + Int.toNat x2) (1 : Nat)) (g3 (x0 + Int.toNat x2) (2 : Nat)) (g3 (x0 + Int.toNat x2) (3 : Nat)) (g3 (x0 + Int.toNat x2) (5 : Nat))) (g3 (x0 + Int.toNat x2) (1 : Nat)) (g3 (x0 + Int.toNat x2) (2 : Nat)) (3 : Nat) && (Go.Proofs.Ytimdpdkgiibndaa.G.fndI (Go.Proofs.Ytimdpdkgiibndaa.G.addN n4 g4 (g3 (x0 + Int.toNat x2) (1 : Nat)) (g3 (x0 + Int.toNat x2) (2 : Nat))) (Go.Proofs.Ytimdpdkgiibndaa.G.addG n4 g4 (g3 (x0 + Int.toNat x2) (1 : Nat)) (g3 (x0 + Int.toNat x2) (2 : Nat)) (g3 (x0 + Int.toNat x2) (3 : Nat)) (g3 (x0 + Int.toNat x2) (5 : Nat))) (g3 (x0 + Int.toNat x2) (1 : Nat)) (g3 (x0 + Int.toNat x2) (2 : Nat)) (4 : Nat) == Go.Proofs.Ytimdpdkgiibndaa.G.fndI (Go.Proofs.Ytimdpdkgiibndaa.G.raN n5 g5 (g3 (x0 + Int.toNat x2) (1 : Nat)) (g3 (x0 + Int.toNat x2) (2 : Nat))) (Go.Proofs.Ytimdpdkgiibndaa.G.raG n5 g5 (g3 (x0 + Int.toNat x2) (1 : Nat)) (g3 (x0 + Int.toNat x2) (2 : Nat)) (g3 (x0 + Int.toNat x2) (3 : Nat)) (g3 (x0 + Int.toNat x2) (5 : Nat))) (g3 (x0 + Int.toNat x2) (1 : Nat)) (g3 (x0 + Int.toNat x2) (2 : Nat)) (4 : Nat) && Bool.true)
noncomputable def TlbPlays_7_c33 (x0 : Nat) (x2 : Int) (g3 : Nat → Nat → Int) (n4 : Nat) (g4 : Nat → Nat → Int) (n5 : Nat) (g5 : Nat → Nat → Int) : Bool := Go.Proofs.Ytimdpdkgiibndaa.G.fndI (Go.Proofs.Ytimdpdkgiibndaa.G.addN n4 g4 (g3 (x0 + Int.toNat x2) (1 : Nat)) (g3 (x0 + Int.toNat x2) (2 : Nat))) (Go.Proofs.Ytimdpdkgiibndaa.G.addG n4 g4 (g3 (x0 + Int.toNat x2) (1 : Nat)) (g3 (x0 + Int.toNat x2) (2 : Nat)) (g3 (x0 + Int.toNat x2) (3 : Nat)) (g3 (x0 + Int.toNat x2) (5 : Nat))) (g3 (x0 + Int.toNat x2) (1 : Nat)) (g3 (x0 + Int.toNat x2) (2 : Nat)) (2 : Nat) == Go.Proofs.Ytimdpdkgiibndaa.G.fndI (Go.Proofs.Ytimdpdkgiibndaa.G.raN n5 g5 (g3 (x0 + Int.toNat x2) (1 : Nat)) (g3 (x0 + Int.toNat x2) (2 : Nat))) (Go.Proofs.Ytimdpdkgiibndaa.G.raG n5 g5 (g3 (x0 + Int.toNat x2) (1 : Nat)) (g3 (x0 + Int.toNat x2) (2 : Nat)) (g3 (x0 + Int.toNat x2) (3 : Nat)) (g3 (x0 + Int.toNat x2) (5 : Nat))) (g3 (x0 + Int.toNat x2) (1 : Nat)) (g3 (x0 + Int.toNat x2) (2 : Nat)) (2 : Nat) && (TlbPlays_7_c32 x0 x2 g3 n4 g4 n5 g5)
noncomputable def TlbPlays_7_c34 (x0 : Nat) (x2 : Int) (g3 : Nat → Nat → Int) (n4 : Nat) (g4 : Nat → Nat → Int) (n5 : Nat) (g5 : Nat → Nat → Int) : Bool := !(TlbPlays_7_c33 x0 x2 g3 n4 g4 n5 g5)
noncomputable def TlbPlays_7_c36 (x0 : Nat) (x2 : Int) (g3 : Nat → Nat → Int) (n4 : Nat) (g4 : Nat → Nat → Int) : Bool := Decidable.decide (Go.Proofs.Ytimdpdkgiibndaa.G.addN n4 g4 (g3 (x0 + Int.toNat x2) (1 : Nat)) (g3 (x0 + Int.toNat x2) (2 : Nat)) ≤ (4611686018427387904 : Nat))
noncomputable def TlbPlays_7_c37 (n5 : Nat) : Bool := Decidable.decide (n5 ≤ (8 : Nat))
noncomputable def TlbPlays_7_c38 (n4 : Nat) : Bool := Decidable.decide (n4 ≤ (8 : Nat))
noncomputable def TlbPlays_7_c39 (x0 : Nat) (x2 : Int) (g3 : Nat → Nat → Int) (n4 : Nat) (g4 : Nat → Nat → Int) (n5 : Nat) (g5 : Nat → Nat → Int) : Bool := Go.Proofs.Ytimdpdkgiibndaa.G.fndI n4 (fun (j cc : Nat) => g4 ((0 : Nat) + j) cc) (g3 (x0 + Int.toNat x2) (1 : Nat)) (g3 (x0 + Int.toNat x2) (2 : Nat)) (2 : Nat) == Go.Proofs.Ytimdpdkgiibndaa.G.fndI n5 g5 (g3 (x0 + Int.toNat x2) (1 : Nat)) (g3 (x0 + Int.toNat x2) (2 : Nat)) (2 : Nat) && (Go.Proofs.Ytimdpdkgiibndaa.G.fndI n4 (fun (j cc : Nat) => g4 ((0 : Nat) + j) cc) (g3 (x0 + Int.toNat x2) (1 : Nat)) (g3 (x0 + Int.toNat x2) (2 : Nat)) (3 : Nat) == Go.Proofs.Ytimdpdkgiibndaa.G.fndI n5 g5 (g3 (x0 + Int.toNat x2) (1 : Nat)) (g3 (x0 + Int.toNat x2) (2 : Nat)) (3 : Nat) && (Go.Proofs.Ytimdpdkgiibndaa.G.fndI n4 (fun (j cc : Nat) => g4 ((0 : Nat) + j) cc) (g3 (x0 + Int.toNat x2) (1 : Nat)) (g3 (x0 + Int.toNat x2) (2 : Nat)) (4 : Nat) == Go.Proofs.Ytimdpdkgiibndaa.G.fndI n5 g5 (g3 (x0 + Int.toNat x2) (1 : Nat)) (g3 (x0 + Int.toNat x2) (2 : Nat)) (4 : Nat) && Bool.true))
noncomputable def TlbPlays_7_c40 (x0 : Nat) (x2 : Int) (g3 : Nat → Nat → Int) (n4 : Nat) (g4 : Nat → Nat → Int) (n5 : Nat) (g5 : Nat → Nat → Int) : Bool := !(TlbPlays_7_c39 x0 x2 g3 n4 g4 n5 g5)
noncomputable def TlbPlays_7_c42 (n4 : Nat) : Bool := Decidable.decide (n4 ≤ (4611686018427387904 : Nat))
noncomputable def B_TlbPlays_7_s0 (x0 : Nat) (x1 : Nat) (x2 : Int) (n3 : Nat) (g3 : Nat → Nat → Int) (n4 : Nat) (g4 : Nat → Nat → Int) (n5 : Nat) (g5 : Nat → Nat → Int) : Tr (Ex × List At) :=
 .br 0 (Decidable.decide ((0 : Nat) ≤ (8 : Nat)))
 (.br 0 ((TlbPlays_7_c3))
 (.br 0 (Decidable.decide ((0 : Nat) ≤ (4611686018427387904 : Nat)))
 (.br 116 ((TlbPlays_7_c1 x0 x2 g3))
 (.ok (.ret, [(.b (Bool.false))]))
 (.br 121 (!Go.Proofs.Ytimdpdkgiibndaa.G.fnd (0 : Nat) (fun (_ _ : Nat) => (0 : Int)) (g3 (x0 + Int.toNat x2) (1 : Nat)) (g3 (x0 + Int.toNat x2) (2 : Nat)) == Go.Proofs.Ytimdpdkgiibndaa.G.fnd (0 : Nat) (fun (_ _ : Nat) => (0 : Int)) (g3 (x0 + Int.toNat x2) (1 : Nat)) (g3 (x0 + Int.toNat x2) (2 : Nat)))
 (.ok (.ret, [(.b (Bool.false))]))
 (.br 130 (Bool.false)
 (.ok (.ret, [(.b (Bool.false))]))
 (.ok (.normal, [(.n (x0)), (.n (x1)), (.i (Go.IntKind.wrap Go.IntKind.i64 (x2 + (1 : Int)))), (.r (n3) (g3)), (.r ((0 : Nat)) (fun (_ _ : Nat) => (0 : Int))), (.r ((0 : Nat)) (fun (_ _ : Nat) => (0 : Int)))])))))
 (.no))
 (.no))
 (.no)
noncomputable def B_TlbPlays_7_s1 (x0 : Nat) (x1 : Nat) (x2 : Int) (n3 : Nat) (g3 : Nat → Nat → Int) (n4 : Nat) (g4 : Nat → Nat → Int) (n5 : Nat) (g5 : Nat → Nat → Int) : Tr (Ex × List At) :=
 .br 0 (Bool.true)
 (B_TlbPlays_7_s0 x0 x1 x2 n3 g3 n4 g4 n5 g5)
 (.no)
noncomputable def B_TlbPlays_7_s2 (x0 : Nat) (x1 : Nat) (x2 : Int) (n3 : Nat) (g3 : Nat → Nat → Int) (n4 : Nat) (g4 : Nat → Nat → Int) (n5 : Nat) (g5 : Nat → Nat → Int) : Tr (Ex × List At) :=
 .br 80 (g3 (x0 + Int.toNat x2) (2 : Nat) != (0 : Int))
 (B_TlbPlays_7_s1 x0 x1 x2 n3 g3 n4 g4 n5 g5)
 (.br 0 (Decidable.decide ((0 : Nat) ≤ (4611686018427387904 : Nat)))
 (.br 0 (Decidable.decide ((0 : Nat) ≤ (4611686018427387904 : Nat)))
 (.br 116 ((TlbPlays_7_c1 x0 x2 g3))
 (.ok (.ret, [(.b (Bool.false))]))
 (.br 121 (!Go.Proofs.Ytimdpdkgiibndaa.G.fnd (0 : Nat) (fun (_ _ : Nat) => (0 : Int)) (g3 (x0 + Int.toNat x2) (1 : Nat)) (g3 (x0 + Int.toNat x2) (2 : Nat)) == Go.Proofs.Ytimdpdkgiibndaa.G.fnd (0 : Nat) (fun (_ _ : Nat) => (0 : Int)) (g3 (x0 + Int.toNat x2) (1 : Nat)) (g3 (x0 + Int.toNat x2) (2 : Nat)))
 (.ok (.ret, [(.b (Bool.false))]))
 (.br 130 (Bool.false)
 (.ok (.ret, [(.b (Bool.false))]))
 (.ok (.normal, [(.n (x0)), (.n (x1)), (.i (Go.IntKind.wrap Go.IntKind.i64 (x2 + (1 : Int)))), (.r (n3) (g3)), (.r ((0 : Nat)) (fun (_ _ : Nat) => (0 : Int))), (.r ((0 : Nat)) (fun (_ _ : Nat) => (0 : Int)))])))))
 (.no))
 (.no))
noncomputable def B_TlbPlays_7_s3 (x0 : Nat) (x1 : Nat) (x2 : Int) (n3 : Nat) (g3 : Nat → Nat → Int) (n4 : Nat) (g4 : Nat → Nat → Int) (n5 : Nat) (g5 : Nat → Nat → Int) : Tr (Ex × List At) :=
 .br 76 (Go.Proofs.Ytimdpdkgiibndaa.G.r_kind_0 (g3 (x0 + Int.toNat x2) (0 : Nat)) (8 : Int) == (7 : Int))
 (B_TlbPlays_7_s2 x0 x1 x2 n3 g3 n4 g4 n5 g5)
 (.br 0 (Decidable.decide ((0 : Nat) ≤ (4611686018427387904 : Nat)))
 (.br 0 (Decidable.decide ((0 : Nat) ≤ (4611686018427387904 : Nat)))
 (.br 116 ((TlbPlays_7_c1 x0 x2 g3))
 (.ok (.ret, [(.b (Bool.false))]))
 (.br 121 (!Go.Proofs.Ytimdpdkgiibndaa.G.fnd (0 : Nat) (fun (_ _ : Nat) => (0 : Int)) (g3 (x0 + Int.toNat x2) (1 : Nat)) (g3 (x0 + Int.toNat x2) (2 : Nat)) == Go.Proofs.Ytimdpdkgiibndaa.G.fnd (0 : Nat) (fun (_ _ : Nat) => (0 : Int)) (g3 (x0 + Int.toNat x2) (1 : Nat)) (g3 (x0 + Int.toNat x2) (2 : Nat)))
 (.ok (.ret, [(.b (Bool.false))]))
 (.br 130 (Bool.false)
 (.ok (.ret, [(.b (Bool.false))]))
 (.ok (.normal, [(.n (x0)), (.n (x1)), (.i (Go.IntKind.wrap Go.IntKind.i64 (x2 + (1 : Int)))), (.r (n3) (g3)), (.r ((0 : Nat)) (fun (_ _ : Nat) => (0 : Int))), (.r ((0 : Nat)) (fun (_ _ : Nat) => (0 : Int)))])))))
 (.no))
 (.no))
noncomputable def B_TlbPlays_7_s4 (x0 : Nat) (x1 : Nat) (x2 : Int) (n3 : Nat) (g3 : Nat → Nat → Int) (n4 : Nat) (g4 : Nat → Nat → Int) (n5 : Nat) (g5 : Nat → Nat → Int) : Tr (Ex × List At) :=
 .br 0 (Decidable.decide ((0 : Nat) ≤ (8 : Nat)))
 (.br 0 ((TlbPlays_7_c30 x0 x2 g3 n4 g4))
 (.br 0 ((TlbPlays_7_c19 x0 x2 g3 n5 g5))
 (.br 116 ((TlbPlays_7_c10 x0 x2 g3 n4 g4 n5 g5))
 (.ok (.ret, [(.b (Bool.false))]))
 (.br 121 (!Go.Proofs.Ytimdpdkgiibndaa.G.fnd (Go.Proofs.Ytimdpdkgiibndaa.G.addN n4 g4 (g3 (x0 + Int.toNat x2) (1 : Nat)) (g3 (x0 + Int.toNat x2) (2 : Nat))) (fun (j cc : Nat) => Go.Proofs.Ytimdpdkgiibndaa.G.addG n4 g4 (g3 (x0 + Int.toNat x2) (1 : Nat)) (g3 (x0 + Int.toNat x2) (2 : Nat)) (g3 (x0 + Int.toNat x2) (3 : Nat)) (g3 (x0 + Int.toNat x2) (5 : Nat)) ((0 : Nat) + j) cc) (g3 (x0 + Int.toNat x2) (1 : Nat)) (g3 (x0 + Int.toNat x2) (2 : Nat)) == Go.Proofs.Ytimdpdkgiibndaa.G.fnd (Go.Proofs.Ytimdpdkgiibndaa.G.raN n5 g5 (g3 (x0 + Int.toNat x2) (1 : Nat)) (g3 (x0 + Int.toNat x2) (2 : Nat))) (Go.Proofs.Ytimdpdkgiibndaa.G.raG n5 g5 (g3 (x0 + Int.toNat x2) (1 : Nat)) (g3 (x0 + Int.toNat x2) (2 : Nat)) (g3 (x0 + Int.toNat x2) (3 : Nat)) (g3 (x0 + Int.toNat x2) (5 : Nat))) (g3 (x0 + Int.toNat x2) (1 : Nat)) (g3 (x0 + Int.toNat x2) (2 : Nat)))
 (.ok (.ret, [(.b (Bool.false))]))
 (.br 130 ((↑(Go.Proofs.Ytimdpdkgiibndaa.G.addN n4 g4 (g3 (x0 + Int.toNat x2) (1 : Nat)) (g3 (x0 + Int.toNat x2) (2 : Nat))) : Int) != (↑(Go.Proofs.Ytimdpdkgiibndaa.G.raN n5 g5 (g3 (x0 + Int.toNat x2) (1 : Nat)) (g3 (x0 + Int.toNat x2) (2 : Nat))) : Int))
 (.ok (.ret, [(.b (Bool.false))]))
 (.ok (.normal, [(.n (x0)), (.n (x1)), (.i (Go.IntKind.wrap Go.IntKind.i64 (x2 + (1 : Int)))), (.r (n3) (g3)), (.r (Go.Proofs.Ytimdpdkgiibndaa.G.addN n4 g4 (g3 (x0 + Int.toNat x2) (1 : Nat)) (g3 (x0 + Int.toNat x2) (2 : Nat))) (fun (j cc : Nat) => Go.Proofs.Ytimdpdkgiibndaa.G.addG n4 g4 (g3 (x0 + Int.toNat x2) (1 : Nat)) (g3 (x0 + Int.toNat x2) (2 : Nat)) (g3 (x0 + Int.toNat x2) (3 : Nat)) (g3 (x0 + Int.toNat x2) (5 : Nat)) ((0 : Nat) + j) cc)), (.r (Go.Proofs.Ytimdpdkgiibndaa.G.raN n5 g5 (g3 (x0 + Int.toNat x2) (1 : Nat)) (g3 (x0 + Int.toNat x2) (2 : Nat))) (Go.Proofs.Ytimdpdkgiibndaa.G.raG n5 g5 (g3 (x0 + Int.toNat x2) (1 : Nat)) (g3 (x0 + Int.toNat x2) (2 : Nat)) (g3 (x0 + Int.toNat x2) (3 : Nat)) (g3 (x0 + Int.toNat x2) (5 : Nat))))])))))
 (.no))
 (.no))
 (.no)
noncomputable def B_TlbPlays_7_s5 (x0 : Nat) (x1 : Nat) (x2 : Int) (n3 : Nat) (g3 : Nat → Nat → Int) (n4 : Nat) (g4 : Nat → Nat → Int) (n5 : Nat) (g5 : Nat → Nat → Int) : Tr (Ex × List At) :=
 .br 0 ((TlbPlays_7_c31 x0 x2 g3 n4 g4))
 (B_TlbPlays_7_s4 x0 x1 x2 n3 g3 n4 g4 n5 g5)
 (.no)
noncomputable def B_TlbPlays_7_s6 (x0 : Nat) (x1 : Nat) (x2 : Int) (n3 : Nat) (g3 : Nat → Nat → Int) (n4 : Nat) (g4 : Nat → Nat → Int) (n5 : Nat) (g5 : Nat → Nat → Int) : Tr (Ex × List At) :=
 .br 80 (g3 (x0 + Int.toNat x2) (2 : Nat) != (0 : Int))
 (B_TlbPlays_7_s5 x0 x1 x2 n3 g3 n4 g4 n5 g5)
 (.br 0 ((TlbPlays_7_c36 x0 x2 g3 n4 g4))
 (.br 0 ((TlbPlays_7_c19 x0 x2 g3 n5 g5))
 (.br 116 ((TlbPlays_7_c34 x0 x2 g3 n4 g4 n5 g5))
 (.ok (.ret, [(.b (Bool.false))]))
 (.br 121 (!Go.Proofs.Ytimdpdkgiibndaa.G.fnd (Go.Proofs.Ytimdpdkgiibndaa.G.addN n4 g4 (g3 (x0 + Int.toNat x2) (1 : Nat)) (g3 (x0 + Int.toNat x2) (2 : Nat))) (Go.Proofs.Ytimdpdkgiibndaa.G.addG n4 g4 (g3 (x0 + Int.toNat x2) (1 : Nat)) (g3 (x0 + Int.toNat x2) (2 : Nat)) (g3 (x0 + Int.toNat x2) (3 : Nat)) (g3 (x0 + Int.toNat x2) (5 : Nat))) (g3 (x0 + Int.toNat x2) (1 : Nat)) (g3 (x0 + Int.toNat x2) (2 : Nat)) == Go.Proofs.Ytimdpdkgiibndaa.G.fnd (Go.Proofs.Ytimdpdkgiibndaa.G.raN n5 g5 (g3 (x0 + Int.toNat x2) (1 : Nat)) (g3 (x0 + Int.toNat x2) (2 : Nat))) (Go.Proofs.Ytimdpdkgiibndaa.G.raG n5 g5 (g3 (x0 + Int.toNat x2) (1 : Nat)) (g3 (x0 + Int.toNat x2) (2 : Nat)) (g3 (x0 + Int.toNat x2) (3 : Nat)) (g3 (x0 + Int.toNat x2) (5 : Nat))) (g3 (x0 + Int.toNat x2) (1 : Nat)) (g3 (x0 + Int.toNat x2) (2 : Nat)))
 (.ok (.ret, [(.b (Bool.false))]))
 (.br 130 ((↑(Go.Proofs.Ytimdpdkgiibndaa.G.addN n4 g4 (g3 (x0 + Int.toNat x2) (1 : Nat)) (g3 (x0 + Int.toNat x2) (2 : Nat))) : Int) != (↑(Go.Proofs.Ytimdpdkgiibndaa.G.raN n5 g5 (g3 (x0 + Int.toNat x2) (1 : Nat)) (g3 (x0 + Int.toNat x2) (2 : Nat))) : Int))
 (.ok (.ret, [(.b (Bool.false))]))
 (.ok (.normal, [(.n (x0)), (.n (x1)), (.i (Go.IntKind.wrap Go.IntKind.i64 (x2 + (1 : Int)))), (.r (n3) (g3)), (.r (Go.Proofs.Ytimdpdkgiibndaa.G.addN n4 g4 (g3 (x0 + Int.toNat x2) (1 : Nat)) (g3 (x0 + Int.toNat x2) (2 : Nat))) (Go.Proofs.Ytimdpdkgiibndaa.G.addG n4 g4 (g3 (x0 + Int.toNat x2) (1 : Nat)) (g3 (x0 + Int.toNat x2) (2 : Nat)) (g3 (x0 + Int.toNat x2) (3 : Nat)) (g3 (x0 + Int.toNat x2) (5 : Nat)))), (.r (Go.Proofs.Ytimdpdkgiibndaa.G.raN n5 g5 (g3 (x0 + Int.toNat x2) (1 : Nat)) (g3 (x0 + Int.toNat x2) (2 : Nat))) (Go.Proofs.Ytimdpdkgiibndaa.G.raG n5 g5 (g3 (x0 + Int.toNat x2) (1 : Nat)) (g3 (x0 + Int.toNat x2) (2 : Nat)) (g3 (x0 + Int.toNat x2) (3 : Nat)) (g3 (x0 + Int.toNat x2) (5 : Nat))))])))))
 (.no))
 (.no))
noncomputable def B_TlbPlays_7_s7 (x0 : Nat) (x1 : Nat) (x2 : Int) (n3 : Nat) (g3 : Nat → Nat → Int) (n4 : Nat) (g4 : Nat → Nat → Int) (n5 : Nat) (g5 : Nat → Nat → Int) : Tr (Ex × List At) :=
 .br 76 (Go.Proofs.Ytimdpdkgiibndaa.G.r_kind_0 (g3 (x0 + Int.toNat x2) (0 : Nat)) (8 : Int) == (7 : Int))
 (B_TlbPlays_7_s6 x0 x1 x2 n3 g3 n4 g4 n5 g5)
 (.br 0 ((TlbPlays_7_c36 x0 x2 g3 n4 g4))
 (.br 0 ((TlbPlays_7_c19 x0 x2 g3 n5 g5))
 (.br 116 ((TlbPlays_7_c34 x0 x2 g3 n4 g4 n5 g5))
 (.ok (.ret, [(.b (Bool.false))]))
 (.br 121 (!Go.Proofs.Ytimdpdkgiibndaa.G.fnd (Go.Proofs.Ytimdpdkgiibndaa.G.addN n4 g4 (g3 (x0 + Int.toNat x2) (1 : Nat)) (g3 (x0 + Int.toNat x2) (2 : Nat))) (Go.Proofs.Ytimdpdkgiibndaa.G.addG n4 g4 (g3 (x0 + Int.toNat x2) (1 : Nat)) (g3 (x0 + Int.toNat x2) (2 : Nat)) (g3 (x0 + Int.toNat x2) (3 : Nat)) (g3 (x0 + Int.toNat x2) (5 : Nat))) (g3 (x0 + Int.toNat x2) (1 : Nat)) (g3 (x0 + Int.toNat x2) (2 : Nat)) == Go.Proofs.Ytimdpdkgiibndaa.G.fnd (Go.Proofs.Ytimdpdkgiibndaa.G.raN n5 g5 (g3 (x0 + Int.toNat x2) (1 : Nat)) (g3 (x0 + Int.toNat x2) (2 : Nat))) (Go.Proofs.Ytimdpdkgiibndaa.G.raG n5 g5 (g3 (x0 + Int.toNat x2) (1 : Nat)) (g3 (x0 + Int.toNat x2) (2 : Nat)) (g3 (x0 + Int.toNat x2) (3 : Nat)) (g3 (x0 + Int.toNat x2) (5 : Nat))) (g3 (x0 + Int.toNat x2) (1 : Nat)) (g3 (x0 + Int.toNat x2) (2 : Nat)))
 (.ok (.ret, [(.b (Bool.false))]))
 (.br 130 ((↑(Go.Proofs.Ytimdpdkgiibndaa.G.addN n4 g4 (g3 (x0 + Int.toNat x2) (1 : Nat)) (g3 (x0 + Int.toNat x2) (2 : Nat))) : Int) != (↑(Go.Proofs.Ytimdpdkgiibndaa.G.raN n5 g5 (g3 (x0 + Int.toNat x2) (1 : Nat)) (g3 (x0 + Int.toNat x2) (2 : Nat))) : Int))
 (.ok (.ret, [(.b (Bool.false))]))
 (.ok (.normal, [(.n (x0)), (.n (x1)), (.i (Go.IntKind.wrap Go.IntKind.i64 (x2 + (1 : Int)))), (.r (n3) (g3)), (.r (Go.Proofs.Ytimdpdkgiibndaa.G.addN n4 g4 (g3 (x0 + Int.toNat x2) (1 : Nat)) (g3 (x0 + Int.toNat x2) (2 : Nat))) (Go.Proofs.Ytimdpdkgiibndaa.G.addG n4 g4 (g3 (x0 + Int.toNat x2) (1 : Nat)) (g3 (x0 + Int.toNat x2) (2 : Nat)) (g3 (x0 + Int.toNat x2) (3 : Nat)) (g3 (x0 + Int.toNat x2) (5 : Nat)))), (.r (Go.Proofs.Ytimdpdkgiibndaa.G.raN n5 g5 (g3 (x0 + Int.toNat x2) (1 : Nat)) (g3 (x0 + Int.toNat x2) (2 : Nat))) (Go.Proofs.Ytimdpdkgiibndaa.G.raG n5 g5 (g3 (x0 + Int.toNat x2) (1 : Nat)) (g3 (x0 + Int.toNat x2) (2 : Nat)) (g3 (x0 + Int.toNat x2) (3 : Nat)) (g3 (x0 + Int.toNat x2) (5 : Nat))))])))))
 (.no))
 (.no))
noncomputable def B_TlbPlays_7_s8 (x0 : Nat) (x1 : Nat) (x2 : Int) (n3 : Nat) (g3 : Nat → Nat → Int) (n4 : Nat) (g4 : Nat → Nat → Int) (n5 : Nat) (g5 : Nat → Nat → Int) : Tr (Ex × List At) :=
 .br 0 (Decidable.decide ((0 : Nat) ≤ (8 : Nat)))
 (.br 0 ((TlbPlays_7_c42 n4))
 (.br 0 (Decidable.decide (n5 ≤ (4611686018427387904 : Nat)))
 (.br 116 ((TlbPlays_7_c40 x0 x2 g3 n4 g4 n5 g5))
 (.ok (.ret, [(.b (Bool.false))]))
 (.br 121 (!Go.Proofs.Ytimdpdkgiibndaa.G.fnd n4 (fun (j cc : Nat) => g4 ((0 : Nat) + j) cc) (g3 (x0 + Int.toNat x2) (1 : Nat)) (g3 (x0 + Int.toNat x2) (2 : Nat)) == Go.Proofs.Ytimdpdkgiibndaa.G.fnd n5 g5 (g3 (x0 + Int.toNat x2) (1 : Nat)) (g3 (x0 + Int.toNat x2) (2 : Nat)))
 (.ok (.ret, [(.b (Bool.false))]))
 (.br 130 ((↑n4 : Int) != (↑n5 : Int))
 (.ok (.ret, [(.b (Bool.false))]))
 (.ok (.normal, [(.n (x0)), (.n (x1)), (.i (Go.IntKind.wrap Go.IntKind.i64 (x2 + (1 : Int)))), (.r (n3) (g3)), (.r (n4) (fun (j cc : Nat) => g4 ((0 : Nat) + j) cc)), (.r (n5) (g5))])))))
 (.no))
 (.no))
 (.no)
noncomputable def B_TlbPlays_7_s9 (x0 : Nat) (x1 : Nat) (x2 : Int) (n3 : Nat) (g3 : Nat → Nat → Int) (n4 : Nat) (g4 : Nat → Nat → Int) (n5 : Nat) (g5 : Nat → Nat → Int) : Tr (Ex × List At) :=
 .br 0 (Decidable.decide (n4 ≤ (1073741824 : Nat)))
 (B_TlbPlays_7_s8 x0 x1 x2 n3 g3 n4 g4 n5 g5)
 (.no)
noncomputable def B_TlbPlays_7_s10 (x0 : Nat) (x1 : Nat) (x2 : Int) (n3 : Nat) (g3 : Nat → Nat → Int) (n4 : Nat) (g4 : Nat → Nat → Int) (n5 : Nat) (g5 : Nat → Nat → Int) : Tr (Ex × List At) :=
 .br 80 (g3 (x0 + Int.toNat x2) (2 : Nat) != (0 : Int))
 (B_TlbPlays_7_s9 x0 x1 x2 n3 g3 n4 g4 n5 g5)
 (.br 0 (Decidable.decide (n4 ≤ (4611686018427387904 : Nat)))
 (.br 0 (Decidable.decide (n5 ≤ (4611686018427387904 : Nat)))
 (.br 116 (!(Go.Proofs.Ytimdpdkgiibndaa.G.fndI n4 g4 (g3 (x0 + Int.toNat x2) (1 : Nat)) (g3 (x0 + Int.toNat x2) (2 : Nat)) (2 : Nat) == Go.Proofs.Ytimdpdkgiibndaa.G.fndI n5 g5 (g3 (x0 + Int.toNat x2) (1 : Nat)) (g3 (x0 + Int.toNat x2) (2 : Nat)) (2 : Nat) && (Go.Proofs.Ytimdpdkgiibndaa.G.fndI n4 g4 (g3 (x0 + Int.toNat x2) (1 : Nat)) (g3 (x0 + Int.toNat x2) (2 : Nat)) (3 : Nat) == Go.Proofs.Ytimdpdkgiibndaa.G.fndI n5 g5 (g3 (x0 + Int.toNat x2) (1 : Nat)) (g3 (x0 + Int.toNat x2) (2 : Nat)) (3 : Nat) && (Go.Proofs.Ytimdpdkgiibndaa.G.fndI n4 g4 (g3 (x0 + Int.toNat x2) (1 : Nat)) (g3 (x0 + Int.toNat x2) (2 : Nat)) (4 : Nat) == Go.Proofs.Ytimdpdkgiibndaa.G.fndI n5 g5 (g3 (x0 + Int.toNat x2) (1 : Nat)) (g3 (x0 + Int.toNat x2) (2 : Nat)) (4 : Nat) && Bool.true))))
 (.ok (.ret, [(.b (Bool.false))]))
 (.br 121 (!Go.Proofs.Ytimdpdkgiibndaa.G.fnd n4 g4 (g3 (x0 + Int.toNat x2) (1 : Nat)) (g3 (x0 + Int.toNat x2) (2 : Nat)) == Go.Proofs.Ytimdpdkgiibndaa.G.fnd n5 g5 (g3 (x0 + Int.toNat x2) (1 : Nat)) (g3 (x0 + Int.toNat x2) (2 : Nat)))
 (.ok (.ret, [(.b (Bool.false))]))
 (.br 130 ((↑n4 : Int) != (↑n5 : Int))
 (.ok (.ret, [(.b (Bool.false))]))
 (.ok (.normal, [(.n (x0)), (.n (x1)), (.i (Go.IntKind.wrap Go.IntKind.i64 (x2 + (1 : Int)))), (.r (n3) (g3)), (.r (n4) (g4)), (.r (n5) (g5))])))))
 (.no))
 (.no))
noncomputable def B_TlbPlays_7_s11 (x0 : Nat) (x1 : Nat) (x2 : Int) (n3 : Nat) (g3 : Nat → Nat → Int) (n4 : Nat) (g4 : Nat → Nat → Int) (n5 : Nat) (g5 : Nat → Nat → Int) : Tr (Ex × List At) :=
 .br 76 (Go.Proofs.Ytimdpdkgiibndaa.G.r_kind_0 (g3 (x0 + Int.toNat x2) (0 : Nat)) (8 : Int) == (7 : Int))
 (B_TlbPlays_7_s10 x0 x1 x2 n3 g3 n4 g4 n5 g5)
 (.br 0 (Decidable.decide (n4 ≤ (4611686018427387904 : Nat)))
 (.br 0 (Decidable.decide (n5 ≤ (4611686018427387904 : Nat)))
 (.br 116 (!(Go.Proofs.Ytimdpdkgiibndaa.G.fndI n4 g4 (g3 (x0 + Int.toNat x2) (1 : Nat)) (g3 (x0 + Int.toNat x2) (2 : Nat)) (2 : Nat) == Go.Proofs.Ytimdpdkgiibndaa.G.fndI n5 g5 (g3 (x0 + Int.toNat x2) (1 : Nat)) (g3 (x0 + Int.toNat x2) (2 : Nat)) (2 : Nat) && (Go.Proofs.Ytimdpdkgiibndaa.G.fndI n4 g4 (g3 (x0 + Int.toNat x2) (1 : Nat)) (g3 (x0 + Int.toNat x2) (2 : Nat)) (3 : Nat) == Go.Proofs.Ytimdpdkgiibndaa.G.fndI n5 g5 (g3 (x0 + Int.toNat x2) (1 : Nat)) (g3 (x0 + Int.toNat x2) (2 : Nat)) (3 : Nat) && (Go.Proofs.Ytimdpdkgiibndaa.G.fndI n4 g4 (g3 (x0 + Int.toNat x2) (1 : Nat)) (g3 (x0 + Int.toNat x2) (2 : Nat)) (4 : Nat) == Go.Proofs.Ytimdpdkgiibndaa.G.fndI n5 g5 (g3 (x0 + Int.toNat x2) (1 : Nat)) (g3 (x0 + Int.toNat x2) (2 : Nat)) (4 : Nat) && Bool.true))))
 (.ok (.ret, [(.b (Bool.false))]))
 (.br 121 (!Go.Proofs.Ytimdpdkgiibndaa.G.fnd n4 g4 (g3 (x0 + Int.toNat x2) (1 : Nat)) (g3 (x0 + Int.toNat x2) (2 : Nat)) == Go.Proofs.Ytimdpdkgiibndaa.G.fnd n5 g5 (g3 (x0 + Int.toNat x2) (1 : Nat)) (g3 (x0 + Int.toNat x2) (2 : Nat)))
 (.ok (.ret, [(.b (Bool.false))]))
 (.br 130 ((↑n4 : Int) != (↑n5 : Int))
 (.ok (.ret, [(.b (Bool.false))]))
 (.ok (.normal, [(.n (x0)), (.n (x1)), (.i (Go.IntKind.wrap Go.IntKind.i64 (x2 + (1 : Int)))), (.r (n3) (g3)), (.r (n4) (g4)), (.r (n5) (g5))])))))
 (.no))
 (.no))
noncomputable def B_TlbPlays_7 (x0 : Nat) (x1 : Nat) (x2 : Int) (n3 : Nat) (g3 : Nat → Nat → Int) (n4 : Nat) (g4 : Nat → Nat → Int) (n5 : Nat) (g5 : Nat → Nat → Int) : Tr (Ex × List At) :=
 .br 31 (Decidable.decide (x2 < (↑x1 : Int)))
 (.br 34 (Decidable.decide (x2 < (100 : Int)))
 (.br 39 (Go.AM.within x2 x1)
 (.br 0 (Go.Proofs.Ytimdpdkgiibndaa.G.ok_kind (g3 (x0 + Int.toNat x2) (0 : Nat)) (8 : Int))
 (.br 45 (Decidable.decide (Go.Proofs.Ytimdpdkgiibndaa.G.r_kind_0 (g3 (x0 + Int.toNat x2) (0 : Nat)) (8 : Int) < (5 : Int)))
 (.br 0 ((TlbPlays_7_c38 n4))
 (.br 0 ((TlbPlays_7_c37 n5))
 (.br 64 (Go.Proofs.Ytimdpdkgiibndaa.G.r_kind_0 (g3 (x0 + Int.toNat x2) (0 : Nat)) (8 : Int) == (7 : Int))
 (.br 68 (g3 (x0 + Int.toNat x2) (2 : Nat) == (0 : Int))
 (B_TlbPlays_7_s3 x0 x1 x2 n3 g3 n4 g4 n5 g5)
 (B_TlbPlays_7_s7 x0 x1 x2 n3 g3 n4 g4 n5 g5))
 (B_TlbPlays_7_s7 x0 x1 x2 n3 g3 n4 g4 n5 g5))
 (.no))
 (.no))
 (.br 64 (Go.Proofs.Ytimdpdkgiibndaa.G.r_kind_0 (g3 (x0 + Int.toNat x2) (0 : Nat)) (8 : Int) == (7 : Int))
 (.br 68 (g3 (x0 + Int.toNat x2) (2 : Nat) == (0 : Int))
 (B_TlbPlays_7_s3 x0 x1 x2 n3 g3 n4 g4 n5 g5)
 (B_TlbPlays_7_s11 x0 x1 x2 n3 g3 n4 g4 n5 g5))
 (B_TlbPlays_7_s11 x0 x1 x2 n3 g3 n4 g4 n5 g5)))
 (.no))
 (.no))
 (.ok (.exit 0, [(.r (n4) (g4)), (.r (n5) (g5))])))
 (.ok (.exit 0, [(.r (n4) (g4)), (.r (n5) (g5))]))
noncomputable def y_TlbPlays_7 : Nat → Option Nat := (syOf3 [31, 34, 39, 45, 64, 68, 76, 80, 116, 121, 130] [] [])
noncomputable def BL_TlbPlays_7 (l : List At) : Tr (Ex × List At) := B_TlbPlays_7 (aN l 0) (aN l 1) (aI l 2) (aRn l 3) (aRg l 3) (aRn l 4) (aRg l 4) (aRn l 5) (aRg l 5)
theorem eB_TlbPlays_7 (l : List At) : (exec Try.prog Γ_clone y_TlbPlays_7 noLoops 100 (loopAt Try.f5 7) ⟨mkV lsh_TlbPlays_7 l, mkH lsh_TlbPlays_7 l⟩).bind (leafL 1 xs_TlbPlays_7) = BL_TlbPlays_7 l := by kernel_rfl
/- by hand: O_TlbPlays_7 (x0 : Nat) (x1 : Nat) (x2 : Int) (n3 : Nat) (g3 : Nat → Nat → Int) (n4 : Nat) (g4 : Nat → Nat → Int) (n5 : Nat) (g5 : Nat → Nat → Int) : Tr (Ex × List At); OL_TlbPlays_7 (l) := O_TlbPlays_7 (aN l 0) (aN l 1) (aI l 2) (aRn l 3) (aRg l 3) (aRn l 4) (aRg l 4) (aRn l 5) (aRg l 5); μ_TlbPlays_7 : List At → Nat; rd_TlbPlays_7 : ∀ l r, (OL_TlbPlays_7 l).val = some r → RoundA BL_TlbPlays_7 OL_TlbPlays_7 μ_TlbPlays_7 l r -/

end Go.Proofs.Ytimdpdkgiibndaa.G
end

/-
  The cache and the reference's: the same ways.
-/
section
namespace Go.Proofs.Ytimdpdkgiibndaa.G
open Go Go.AM Go.Proofs

/-- The first 'n' rows are the same. -/
def R5 (n : Nat) (g h : Nat → Nat → Int) : Prop := ∀ i, i < n → ∀ c, c < 5 → g i c = h i c

theorem findI_congr {p q : Nat → Bool} : ∀ (m i : Nat), (∀ k, i ≤ k → k < i + m → p k = q k) → findI p m i = findI q m i
  | 0, _, _ => rfl
  | m + 1, i, h => by
    rw [findI, findI, h i (Nat.le_refl _) (by omega), findI_congr m (i + 1) fun k h1 h2 => h k (by omega) (by omega)]

section
variable {n : Nat} {g h : Nat → Nat → Int} (e : R5 n g h) (s p : Int)
include e
theorem hit_same {k : Nat} (hk : k < n) : hit g s p k = hit h s p k := by
  unfold hit; rw [e k hk 0 (by decide), e k hk 1 (by decide)]
theorem idx_same : idx n g s p = idx n h s p := findI_congr n 0 fun k _ hk => hit_same e s p (by omega)
theorem fnd_same : fnd n g s p = fnd n h s p := by unfold fnd; rw [idx_same e s p]
theorem fndI_same {c : Nat} (hc : c < 5) : fndI n g s p c = fndI n h s p c := by
  unfold fndI
  rw [fnd_same e s p, idx_same e s p]
  cases hf : fnd n h s p with
  | true => exact e _ (of_decide_eq_true hf) c hc
  | false => rfl
theorem dist_same (hd : Dist n g) : Dist n h := fun i j h1 h2 => by
  rw [← e i (by omega) 0 (by decide), ← e i (by omega) 1 (by decide), ← e j h2 0 (by decide), ← e j h2 1 (by decide)]
  exact hd i j h1 h2
theorem one_same : oneN n g s p = oneN n h s p ∧ R5 (oneN n g s p) (oneG n g s p) (oneG n h s p) := by
  unfold oneN oneG
  rw [fnd_same e s p, idx_same e s p]
  cases hf : fnd n h s p with
  | true =>
    refine ⟨rfl, fun i hi c hc => ?_⟩
    have hi : i < n - 1 := hi
    show delG g (idx n h s p) i c = delG h (idx n h s p) i c
    unfold delG
    by_cases hl : i < idx n h s p
    · rw [if_pos hl, if_pos hl]; exact e i (by omega) c hc
    · rw [if_neg hl, if_neg hl]; exact e (i + 1) (by omega) c hc
  | false => exact ⟨rfl, e⟩
end

theorem row5 (x0 x1 x2 x3 x4 : Int) (g : Nat → Nat → Int) (i : Nat) (h0 : x0 = g i 0) (h1 : x1 = g i 1) (h2 : x2 = g i 2) (h3 : x3 = g i 3) (h4 : x4 = g i 4) : ∀ c, c < 5 → rowsF [[x0, x1, x2, x3, x4]] 0 c = g i c
  | 0, _ => h0
  | 1, _ => h1
  | 2, _ => h2
  | 3, _ => h3
  | 4, _ => h4
  | c + 5, h => absurd h (by omega)

/-- What is kept is what there is without the one of the key. -/
theorem ka_inv {n : Nat} {g : Nat → Nat → Int} {s p : Int} (hd : Dist n g) : ∀ (k i m : Nat) (h : Nat → Nat → Int), i + k = n → m = (if i ≤ idx n g s p then i else i - 1) → R5 m h (delG g (idx n g s p)) →
    (kaL g s p k i m h).1 = oneN n g s p ∧ R5 (oneN n g s p) (kaL g s p k i m h).2 (oneG n g s p)
  | 0, i, m, h, hk, hm, hr => by
    obtain ⟨a1, a2, a3⟩ := idx_spec n g s p
    show m = oneN n g s p ∧ R5 (oneN n g s p) h (oneG n g s p)
    unfold oneN oneG
    cases hf : fnd n g s p with
    | true =>
      have hi : idx n g s p < n := of_decide_eq_true hf
      rw [if_neg (by omega)] at hm
      have hm : m = n - 1 := by omega
      exact ⟨hm, by rw [hm] at hr; exact hr⟩
    | false =>
      have hi : ¬ idx n g s p < n := of_decide_eq_false hf
      rw [if_pos (by omega)] at hm
      have hm : m = n := by omega
      refine ⟨hm, fun j hj c hc => ?_⟩
      have hj : j < n := hj
      exact (hr j (by omega) c hc).trans (del_lt (by omega) c)
  | k + 1, i, m, h, hk, hm, hr => by
    obtain ⟨a1, a2, a3⟩ := idx_spec n g s p
    rw [kaL]
    cases ht : hit g s p i with
    | true =>
      have hix : idx n g s p = i := by
        rcases Nat.lt_trichotomy (idx n g s p) i with h1 | h1 | h1
        · exfalso
          have b := hit_iff.1 (a2 (by omega))
          have b' := hit_iff.1 ht
          exact hd _ i h1 (by omega) ⟨b.1.trans b'.1.symm, b.2.trans b'.2.symm⟩
        · exact h1
        · rw [a3 i h1] at ht; cases ht
      rw [if_pos (by omega)] at hm
      exact ka_inv hd k (i + 1) m h (by omega) (by rw [if_neg (by omega)]; omega) hr
    | false =>
      have hix : idx n g s p ≠ i := fun h1 => by
        rw [← h1, a2 (by omega)] at ht; cases ht
      refine ka_inv hd k (i + 1) (m + 1) _ (by omega) ?_ ?_
      · by_cases hl : i ≤ idx n g s p
        · rw [if_pos hl] at hm; rw [if_pos (by omega)]; omega
        · rw [if_neg hl] at hm; rw [if_neg (by omega)]; omega
      · intro j hj c hc
        by_cases hjm : j < m
        · rw [appG_lt hjm]; exact hr j hjm c hc
        · obtain rfl : j = m := by omega
          rw [appG_at, row5 _ _ _ _ _ g i rfl rfl rfl rfl rfl c hc]
          by_cases hl : i ≤ idx n g s p
          · rw [if_pos hl] at hm; rw [del_lt (by omega), hm]
          · rw [if_neg hl] at hm; rw [del_ge (by omega), hm, show i - 1 + 1 = i by omega]

theorem ka_law {n : Nat} {g : Nat → Nat → Int} (s p : Int) (hd : Dist n g) : (ka n g s p).1 = oneN n g s p ∧ R5 (oneN n g s p) (ka n g s p).2 (oneG n g s p) :=
  ka_inv hd n 0 0 (fun _ _ => 0) (by omega) (by rw [if_pos (Nat.zero_le _)]) fun _ h => absurd h (Nat.not_lt_zero _)

structure PlInv (n : Nat) (g : Nat → Nat → Int) (m : Nat) (h : Nat → Nat → Int) : Prop where
  num : m = n
  le : n ≤ 8
  dist : Dist n g
  same : R5 n g h

theorem pl_add {n m : Nat} {g h : Nat → Nat → Int} (s p a c : Int) (i : PlInv n g m h) : PlInv (addN n g s p) (addG n g s p a c) (raN m h s p) (raG m h s p a c) := by
  obtain ⟨rfl, hle, hd, hs⟩ := i
  obtain ⟨d1, d2, _⟩ := add_all (s := s) (p := p) a c hd hle
  obtain ⟨o1, o2⟩ := one_same hs s p
  obtain ⟨k1, k2⟩ := ka_law s p (dist_same hs hd)
  have eN : raM m h s p = twoN m g s p := by unfold raM twoN; rw [k1, o1]
  refine ⟨by unfold raN addN; rw [eN], d1, d2, fun j hj d hd5 => ?_⟩
  unfold addG raG
  rw [eN]
  have hj : j < twoN m g s p + 1 := hj
  by_cases hjl : j < twoN m g s p
  · rw [appG_lt hjl, appG_lt hjl]
    unfold twoG raH
    unfold twoN at hjl
    rw [k1]
    rw [o1] at hjl ⊢
    rw [← o1] at hjl ⊢
    cases h8 : decide (8 ≤ oneN m g s p) with
    | true =>
      rw [h8] at hjl
      have hjl : j < oneN m g s p - 1 := hjl
      show delG (oneG m g s p) 0 j d = (ka m h s p).2 (1 + j) d
      rw [del_ge (by omega), o2 (j + 1) (by omega) d hd5, Nat.add_comm 1 j, k2 (j + 1) (by rw [← o1]; omega) d hd5]
    | false =>
      rw [h8] at hjl
      have hjl : j < oneN m g s p := hjl
      show oneG m g s p j d = (ka m h s p).2 j d
      rw [o2 j hjl d hd5, k2 j (by rw [← o1]; exact hjl) d hd5]
  · obtain rfl : j = twoN m g s p := by omega
    rw [appG_at, appG_at]

theorem pl_zero {g h : Nat → Nat → Int} : PlInv 0 g 0 h := ⟨rfl, by decide, fun i j h1 h2 => absurd h2 (by omega), fun _ h => absurd h (Nat.not_lt_zero _)⟩

theorem pl_cmp {n m : Nat} {g h : Nat → Nat → Int} (s p : Int) (i : PlInv n g m h) :
    (!(fndI n g s p 2 == fndI m h s p 2 && (fndI n g s p 3 == fndI m h s p 3 && (fndI n g s p 4 == fndI m h s p 4 && true)))) = false ∧ (!(fnd n g s p == fnd m h s p)) = false ∧ ((n : Int) != (m : Int)) = false := by
  obtain ⟨rfl, hle, hd, hs⟩ := i
  rw [fndI_same hs s p (c := 2) (by decide), fndI_same hs s p (c := 3) (by decide), fndI_same hs s p (c := 4) (by decide), fnd_same hs s p]
  simp
end Go.Proofs.Ytimdpdkgiibndaa.G
end

/-
  The loop of TlbPlays that does the calls.
-/
section
namespace Go.Proofs.Ytimdpdkgiibndaa.G
open Go Go.AM Go.Proofs

theorem kind_ok {x n : Int} (hn : 0 < n) : ok_kind x n = true := by
  unfold ok_kind
  have : (n != 0) = true := by rw [bne_iff_ne]; omega
  rw [this]
  cases decide (x < 0) <;> rfl

abbrev PlQ : Type := Nat × (Nat → Nat → Int) × Nat × (Nat → Nat → Int)
noncomputable def plS (o : Nat → Int) (q : PlQ) : PlQ :=
  bif decide (r_kind_0 (o 0) 8 < 5) then (addN q.1 q.2.1 (o 1) (o 2), addG q.1 q.2.1 (o 1) (o 2) (o 3) (o 5), raN q.2.2.1 q.2.2.2 (o 1) (o 2), raG q.2.2.1 q.2.2.2 (o 1) (o 2) (o 3) (o 5))
  else bif r_kind_0 (o 0) 8 == 7 then (bif o 2 == 0 then (0, (fun _ _ => 0), 0, (fun _ _ => 0)) else (q.1, (fun j cc => q.2.1 (0 + j) cc), q.2.2)) else q
noncomputable def plL (x0 : Nat) (o : Nat → Nat → Int) : Nat → Nat → PlQ → PlQ
  | 0, _, q => q
  | m + 1, i, q => plL x0 o m (i + 1) (plS (o (x0 + i)) q)

def PlOk (q : PlQ) : Prop := PlInv q.1 q.2.1 q.2.2.1 q.2.2.2
theorem pl_step (o : Nat → Int) {q : PlQ} (h : PlOk q) : PlOk (plS o q) := by
  unfold plS
  cases decide (r_kind_0 (o 0) 8 < 5) with
  | true => exact pl_add _ _ _ _ h
  | false => cases r_kind_0 (o 0) 8 == 7 with
    | true => cases o 2 == 0 with
      | true => exact pl_zero
      | false =>
        show PlInv q.1 (fun j cc => q.2.1 (0 + j) cc) q.2.2.1 q.2.2.2
        have e : (fun (j cc : Nat) => q.2.1 (0 + j) cc) = q.2.1 := by funext j cc; rw [Nat.zero_add]
        rw [e]; exact h
    | false => exact h
theorem pl_all (x0 : Nat) (o : Nat → Nat → Int) : ∀ (m i : Nat) (q : PlQ), PlOk q → PlOk (plL x0 o m i q)
  | 0, _, _, h => h
  | m + 1, i, q, h => pl_all x0 o m (i + 1) _ (pl_step _ h)

noncomputable def O_TlbPlays_7 (x0 x1 : Nat) (x2 : Int) (_n3 : Nat) (g3 : Nat → Nat → Int) (n4 : Nat) (g4 : Nat → Nat → Int) (n5 : Nat) (g5 : Nat → Nat → Int) : Tr (Ex × List At) :=
  .br 0 (pdec (0 ≤ x2 ∧ PlInv n4 g4 n5 g5)) (.ok (.exit 0, [.r (plL x0 g3 (min x1 100 - x2.toNat) x2.toNat (n4, g4, n5, g5)).1 (plL x0 g3 (min x1 100 - x2.toNat) x2.toNat (n4, g4, n5, g5)).2.1, .r (plL x0 g3 (min x1 100 - x2.toNat) x2.toNat (n4, g4, n5, g5)).2.2.1 (plL x0 g3 (min x1 100 - x2.toNat) x2.toNat (n4, g4, n5, g5)).2.2.2])) .no
noncomputable def OL_TlbPlays_7 (l : List At) : Tr (Ex × List At) := O_TlbPlays_7 (aN l 0) (aN l 1) (aI l 2) (aRn l 3) (aRg l 3) (aRn l 4) (aRg l 4) (aRn l 5) (aRg l 5)
def μ_TlbPlays_7 (l : List At) : Nat := ((aN l 1 : Int) - aI l 2).toNat

theorem rd_TlbPlays_7 : ∀ l r, (OL_TlbPlays_7 l).val = some r → RoundS BL_TlbPlays_7 OL_TlbPlays_7 μ_TlbPlays_7 l r := by
  intro l r hh
  unfold OL_TlbPlays_7 at hh
  obtain ⟨hc, h⟩ := guard_val hh
  clear hh
  obtain ⟨c0, inv⟩ := of_pdec hc
  unfold RoundS BL_TlbPlays_7 B_TlbPlays_7
  generalize hx0 : aN l 0 = x0 at *
  generalize hx1 : aN l 1 = x1 at *
  generalize hx2 : aI l 2 = x2 at *
  generalize hg3 : aRg l 3 = g3 at *
  generalize hn4 : aRn l 4 = n4 at *
  generalize hg4 : aRg l 4 = g4 at *
  generalize hn5 : aRn l 5 = n5 at *
  generalize hg5 : aRg l 5 = g5 at *
  have stop : min x1 100 - x2.toNat = 0 → (Tr.ok (Ex.exit 0, [At.r n4 g4, At.r n5 g5])).sat fun p => (p.1 = .normal ∧ ∃ l2 r', AtsEq p.2 l2 ∧ μ_TlbPlays_7 l2 < μ_TlbPlays_7 l ∧ (OL_TlbPlays_7 l2).val = some r' ∧ r'.1 = r.1 ∧ AtsEq r'.2 r.2) ∨ (p.1 ≠ .normal ∧ r.1 = p.1 ∧ AtsEq p.2 r.2) := by
    intro e
    rw [e, plL] at h
    have hv := val_ok h
    subst hv
    exact out_ (by simp) rfl (AtsEq.refl _)
  refine brD (fun h1 => ?_) (fun h1 => stop (by omega))
  refine brD (fun h2 => ?_) (fun h2 => stop (by omega))
  have hin : within x2 x1 = true := by simp only [within, Bool.and_eq_true, decide_eq_true_eq]; omega
  have e1 : min x1 100 - x2.toNat = (min x1 100 - (x2 + 1).toNat) + 1 := by omega
  have e2 : x2.toNat + 1 = (x2 + 1).toNat := by omega
  have hw : IntKind.i64.wrap (x2 + 1) = x2 + 1 := wrap_i64 (by omega) (by omega)
  have hμ : ((x1 : Int) - (x2 + 1)).toNat < μ_TlbPlays_7 l := by unfold μ_TlbPlays_7; rw [hx1, hx2]; omega
  rw [e1, plL, e2] at h
  -- what stands behind the calls
  have tail : ∀ (n : Nat) (g : Nat → Nat → Int) (m : Nat) (k : Nat → Nat → Int), PlInv n g m k → plS (g3 (x0 + x2.toNat)) (n4, g4, n5, g5) = (n, g, m, k) → ∀ (c1 c2 c3 c4 c5 : Bool) (i1 i2 i3 i4 i5 : Nat) (t1 t2 t3 t4 t5 : Tr (Ex × List At)),
      c1 = decide (n ≤ 4611686018427387904) → c2 = decide (m ≤ 4611686018427387904) →
      c3 = (!(fndI n g (g3 (x0 + x2.toNat) 1) (g3 (x0 + x2.toNat) 2) 2 == fndI m k (g3 (x0 + x2.toNat) 1) (g3 (x0 + x2.toNat) 2) 2 && (fndI n g (g3 (x0 + x2.toNat) 1) (g3 (x0 + x2.toNat) 2) 3 == fndI m k (g3 (x0 + x2.toNat) 1) (g3 (x0 + x2.toNat) 2) 3 && (fndI n g (g3 (x0 + x2.toNat) 1) (g3 (x0 + x2.toNat) 2) 4 == fndI m k (g3 (x0 + x2.toNat) 1) (g3 (x0 + x2.toNat) 2) 4 && true)))) →
      c4 = (!(fnd n g (g3 (x0 + x2.toNat) 1) (g3 (x0 + x2.toNat) 2) == fnd m k (g3 (x0 + x2.toNat) 1) (g3 (x0 + x2.toNat) 2))) → c5 = ((n : Int) != (m : Int)) →
      (Tr.br i1 c1 (.br i2 c2 (.br i3 c3 t3 (.br i4 c4 t4 (.br i5 c5 t5 (.ok (.normal, [.n x0, .n x1, .i (IntKind.i64.wrap (x2 + 1)), .r (aRn l 3) g3, .r n g, .r m k]))))) t2) t1).sat fun p => (p.1 = .normal ∧ ∃ l2 r', AtsEq p.2 l2 ∧ μ_TlbPlays_7 l2 < μ_TlbPlays_7 l ∧ (OL_TlbPlays_7 l2).val = some r' ∧ r'.1 = r.1 ∧ AtsEq r'.2 r.2) ∨ (p.1 ≠ .normal ∧ r.1 = p.1 ∧ AtsEq p.2 r.2) := by
    intro n g m k hi hs c1 c2 c3 c4 c5 i1 i2 i3 i4 i5 t1 t2 t3 t4 t5 k1 k2 k3 k4 k5
    obtain ⟨q1, q2, q3⟩ := pl_cmp (g3 (x0 + x2.toNat) 1) (g3 (x0 + x2.toNat) 2) hi
    have hn := hi.le
    have hm := hi.num
    rw [hs] at h
    rw [hw]
    have hq : 0 ≤ x2 + 1 ∧ PlInv n g m k := ⟨by omega, hi⟩
    exact brT (k1.trans (decide_eq_true (by omega))) (brT (k2.trans (decide_eq_true (by omega))) (brF (k3.trans q1) (brF (k4.trans q2) (brF (k5.trans q3) (on_ _ r (AtsEq.refl _) hμ ((br_t (g := 0) (pdec_yes hq)).trans h) rfl (AtsEq.refl _))))))
  refine brT hin (brT (kind_ok (by decide)) (brD (fun h5 => ?_) (fun h5 => ?_)))
  · -- Add
    have hs : plS (g3 (x0 + x2.toNat)) (n4, g4, n5, g5) = (addN n4 g4 (g3 (x0 + x2.toNat) 1) (g3 (x0 + x2.toNat) 2), addG n4 g4 (g3 (x0 + x2.toNat) 1) (g3 (x0 + x2.toNat) 2) (g3 (x0 + x2.toNat) 3) (g3 (x0 + x2.toNat) 5), raN n5 g5 (g3 (x0 + x2.toNat) 1) (g3 (x0 + x2.toNat) 2), raG n5 g5 (g3 (x0 + x2.toNat) 1) (g3 (x0 + x2.toNat) 2) (g3 (x0 + x2.toNat) 3) (g3 (x0 + x2.toNat) 5)) := by
      unfold plS; rw [decide_eq_true h5]; rfl
    have h7 : (r_kind_0 (g3 (x0 + x2.toNat) 0) 8 == 7) = false := by rw [beq_eq_false_iff_ne]; omega
    have hle := inv.le
    have hnum := inv.num
    refine brT (decide_eq_true hle) (brT (decide_eq_true (show n5 ≤ 8 by omega)) (brF h7 ?_))
    unfold B_TlbPlays_7_s7
    exact brF h7 (tail _ _ _ _ (pl_add _ _ _ _ inv) hs _ _ _ _ _ _ _ _ _ _ _ _ _ _ _ rfl rfl rfl rfl rfl)
  · refine brC (fun h7 => ?_) (fun h7 => ?_)
    · refine brC (fun h0 => ?_) (fun h0 => ?_)
      · -- Clear
        have h0' : (g3 (x0 + x2.toNat) 2 == 0) = true := h0
        have h0n : (g3 (x0 + x2.toNat) 2 != 0) = false := by rw [bne, h0']; rfl
        have hs : plS (g3 (x0 + x2.toNat)) (n4, g4, n5, g5) = (0, (fun _ _ => 0), 0, (fun _ _ => 0)) := by
          unfold plS; rw [decide_eq_false h5, h7, h0']; rfl
        unfold B_TlbPlays_7_s3
        refine brT h7 ?_
        unfold B_TlbPlays_7_s2
        exact brF h0n (tail _ _ _ _ pl_zero hs _ _ _ _ _ _ _ _ _ _ _ _ _ _ _ rfl rfl rfl rfl rfl)
      · -- Clone
        have h0' : (g3 (x0 + x2.toNat) 2 == 0) = false := h0
        have h0n : (g3 (x0 + x2.toNat) 2 != 0) = true := by rw [bne, h0']; rfl
        have hs : plS (g3 (x0 + x2.toNat)) (n4, g4, n5, g5) = (n4, (fun j cc => g4 (0 + j) cc), n5, g5) := by
          unfold plS; rw [decide_eq_false h5, h7, h0']; rfl
        have hi := pl_step (g3 (x0 + x2.toNat)) (q := (n4, g4, n5, g5)) inv
        rw [hs] at hi
        have hle := inv.le
        unfold B_TlbPlays_7_s11
        refine brT h7 ?_
        unfold B_TlbPlays_7_s10
        refine brT h0n ?_
        unfold B_TlbPlays_7_s9
        refine brT (decide_eq_true (show n4 ≤ 1073741824 by omega)) ?_
        unfold B_TlbPlays_7_s8
        exact brT rfl (tail _ _ _ _ hi hs _ _ _ _ _ _ _ _ _ _ _ _ _ _ _ rfl rfl rfl rfl rfl)
    · have hs : plS (g3 (x0 + x2.toNat)) (n4, g4, n5, g5) = (n4, g4, n5, g5) := by
        unfold plS; rw [decide_eq_false h5, h7]; rfl
      unfold B_TlbPlays_7_s11
      exact brF h7 (tail _ _ _ _ inv hs _ _ _ _ _ _ _ _ _ _ _ _ _ _ _ rfl rfl rfl rfl rfl)
end Go.Proofs.Ytimdpdkgiibndaa.G
end

/-
  What functions of the seat compute, printed by a program from the explorer.
-/
section
namespace Go.Proofs.Ytimdpdkgiibndaa.G
open Go Go.AM Go.Proofs
theorem f_TlbPlays_7 : LoopF Try.prog 1 (loopAt Try.f5 7) (loopFn 1 lsh_TlbPlays_7 xs_TlbPlays_7 OL_TlbPlays_7) :=
  loop_sat (sy := y_TlbPlays_7) (fuel := 100) (Lp := noLoops) o_clone mixed (loopsOK_at (noLoops_ok _) 7) rfl eB_TlbPlays_7 rd_TlbPlays_7
noncomputable def Lp_TlbPlays_7 : Loops := Loops.set noLoops 7 (loopFn 1 lsh_TlbPlays_7 xs_TlbPlays_7 OL_TlbPlays_7)
theorem lk_TlbPlays_7 : LoopsFn Try.prog 1 Lp_TlbPlays_7 Try.f5 := loopsFn_set (noLoops_ok _) (by kernel_rfl) f_TlbPlays_7

/-! ### the loop at 29 of TlbPlays -/

noncomputable def lsh_TlbPlays_29 : FSh := ⟨[.any, .any, .any, .any, .v false [.p 1 0], .v false [.p 2 0], .any, .any, .any, .any, .any, .any, .any, .any, .v false [.k (.n .i64)], .any, .any, .any, .any, .any, .any, .any, .any, .any, .any, .any, .any, .any, .any, .any, .any, .any, .any, .any, .any, .any, .any, .any, .any, .any, .any, .any, .any, .any, .any, .any, .any, .any, .any, .any, .any, .any, .any, .any, .any, .any, .any, .any, .any, .any, .any, .any, .any, .any, .any, .any, .any, .any, .any, .any, .any, .any, .any, .any, .any, .any, .any, .any, .any, .any, .any, .any, .any, .any, .any, .any, .any, .any, .any, .any, .any, .any, .any, .any, .any, .any, .any, .any, .any, .any, .any, .any, .any, .any, .any, .any, .any, .any, .any, .any, .any, .any, .any, .any, .any, .any, .any, .any, .any, .any, .any, .any, .any, .any, .any, .any, .any, .any, .any, .any, .any, .any, .any, .any, .any, .any, .any, .any, .any, .any, .any, .any, .any, .any, .any, .any, .any, .any, .any, .any, .any, .any, .any, .any, .any, .any, .any, .any, .any, .any, .any, .any, .any, .any, .any, .any, .any, .any, .any, .any, .any, .any, .any, .any, .any], [.no, .cells [.sw 3 5], .cells [.sw 4 5], .rows [.n .u64, .n .u64, .n .i64, .n .i64, .n .i64] true, .rows [.n .u64, .n .u64, .n .i64, .n .i64, .n .i64] true]⟩
noncomputable def xsh_TlbPlays_29_0 : FSh := ⟨[.any, .any, .any, .any, .any, .any, .any, .any, .any, .any, .any, .any, .any, .any, .any, .any, .any, .any, .any, .any, .any, .any, .any, .any, .any, .any, .any, .any, .any, .any, .any, .any, .any, .any, .any, .any, .any, .any, .any, .any, .any, .any, .any, .any, .any, .any, .any, .any, .any, .any, .any, .any, .any, .any, .any, .any, .any, .any, .any, .any, .any, .any, .any, .any, .any, .any, .any, .any, .any, .any, .any, .any, .any, .any, .any, .any, .any, .any, .any, .any, .any, .any, .any, .any, .any, .any, .any, .any, .any, .any, .any, .any, .any, .any, .any, .any, .any, .any, .any, .any, .any, .any, .any, .any, .any, .any, .any, .any, .any, .any, .any, .any, .any, .any, .any, .any, .any, .any, .any, .any, .any, .any, .any, .any, .any, .any, .any, .any, .any, .any, .any, .any, .any, .any, .any, .any, .any, .any, .any, .any, .any, .any, .any, .any, .any, .any, .any, .any, .any, .any, .any, .any, .any, .any, .any, .any, .any, .any, .any, .any, .any, .any, .any, .any, .any, .any, .any, .any, .any, .any, .any, .any, .any, .any, .any], [.no]⟩
noncomputable def xsh_TlbPlays_29_1 : FSh := ⟨[.any, .any, .v false [.k .b], .any, .any, .any, .any, .any, .any, .any, .any, .any, .any, .any, .any, .any, .any, .any, .any, .any, .any, .any, .any, .any, .any, .any, .any, .any, .any, .any, .any, .any, .any, .any, .any, .any, .any, .any, .any, .any, .any, .any, .any, .any, .any, .any, .any, .any, .any, .any, .any, .any, .any, .any, .any, .any, .any, .any, .any, .any, .any, .any, .any, .any, .any, .any, .any, .any, .any, .any, .any, .any, .any, .any, .any, .any, .any, .any, .any, .any, .any, .any, .any, .any, .any, .any, .any, .any, .any, .any, .any, .any, .any, .any, .any, .any, .any, .any, .any, .any, .any, .any, .any, .any, .any, .any, .any, .any, .any, .any, .any, .any, .any, .any, .any, .any, .any, .any, .any, .any, .any, .any, .any, .any, .any, .any, .any, .any, .any, .any, .any, .any, .any, .any, .any, .any, .any, .any, .any, .any, .any, .any, .any, .any, .any, .any, .any, .any, .any, .any, .any, .any, .any, .any, .any, .any, .any, .any, .any, .any, .any, .any, .any, .any, .any, .any, .any, .any, .any, .any, .any, .any, .any, .any, .any], [.no]⟩
noncomputable def xs_TlbPlays_29 : Exs := fun e => match e with
  | .normal => some lsh_TlbPlays_29
  | .exit n => (match Nat.beq n 2 with | true => some xsh_TlbPlays_29_0 | false => none)
  | .ret => some xsh_TlbPlays_29_1
noncomputable def B_TlbPlays_29 (x0 : Int) (n1 : Nat) (g1 : Nat → Nat → Int) (n2 : Nat) (g2 : Nat → Nat → Int) : Tr (Ex × List At) :=
 .br 137 (Decidable.decide (x0 < (↑n2 : Int)))
 (.br 147 (Go.AM.within x0 n2)
 (.br 155 (Go.AM.within x0 n2)
 (.br 0 (Decidable.decide (n1 ≤ (4611686018427387904 : Nat)))
 (.br 163 (!Go.Proofs.Ytimdpdkgiibndaa.G.fnd n1 g1 (g2 (Int.toNat x0) (0 : Nat)) (g2 (Int.toNat x0) (1 : Nat)))
 (.ok (.ret, [(.b (Bool.false))]))
 (.br 170 (Go.AM.within x0 n2)
 (.br 174 (!(Go.Proofs.Ytimdpdkgiibndaa.G.fndI n1 g1 (g2 (Int.toNat x0) (0 : Nat)) (g2 (Int.toNat x0) (1 : Nat)) (2 : Nat) == g2 (Int.toNat x0) (2 : Nat) && (Go.Proofs.Ytimdpdkgiibndaa.G.fndI n1 g1 (g2 (Int.toNat x0) (0 : Nat)) (g2 (Int.toNat x0) (1 : Nat)) (3 : Nat) == g2 (Int.toNat x0) (3 : Nat) && (Go.Proofs.Ytimdpdkgiibndaa.G.fndI n1 g1 (g2 (Int.toNat x0) (0 : Nat)) (g2 (Int.toNat x0) (1 : Nat)) (4 : Nat) == g2 (Int.toNat x0) (4 : Nat) && Bool.true))))
 (.ok (.ret, [(.b (Bool.false))]))
 (.ok (.normal, [(.i (Go.IntKind.wrap Go.IntKind.i64 (x0 + (1 : Int)))), (.r (n1) (g1)), (.r (n2) (g2))])))
 (.no)))
 (.no))
 (.no))
 (.no))
 (.ok (.exit 2, []))
noncomputable def y_TlbPlays_29 : Nat → Option Nat := (syOf3 [137, 147, 155, 163, 170, 174] [] [])
noncomputable def BL_TlbPlays_29 (l : List At) : Tr (Ex × List At) := B_TlbPlays_29 (aI l 0) (aRn l 1) (aRg l 1) (aRn l 2) (aRg l 2)
theorem eB_TlbPlays_29 (l : List At) : (exec Try.prog Γ_clone y_TlbPlays_29 Lp_TlbPlays_7 100 (loopAt Try.f5 29) ⟨mkV lsh_TlbPlays_29 l, mkH lsh_TlbPlays_29 l⟩).bind (leafL 1 xs_TlbPlays_29) = BL_TlbPlays_29 l := by kernel_rfl
/- by hand: O_TlbPlays_29 (x0 : Int) (n1 : Nat) (g1 : Nat → Nat → Int) (n2 : Nat) (g2 : Nat → Nat → Int) : Tr (Ex × List At); OL_TlbPlays_29 (l) := O_TlbPlays_29 (aI l 0) (aRn l 1) (aRg l 1) (aRn l 2) (aRg l 2); μ_TlbPlays_29 : List At → Nat; rd_TlbPlays_29 : ∀ l r, (OL_TlbPlays_29 l).val = some r → RoundA BL_TlbPlays_29 OL_TlbPlays_29 μ_TlbPlays_29 l r -/

end Go.Proofs.Ytimdpdkgiibndaa.G
end

/-
  The loop of TlbPlays that looks for all ways.
-/
section
namespace Go.Proofs.Ytimdpdkgiibndaa.G
open Go Go.AM Go.Proofs

noncomputable def O_TlbPlays_29 (x0 : Int) (n1 : Nat) (g1 : Nat → Nat → Int) (n2 : Nat) (g2 : Nat → Nat → Int) : Tr (Ex × List At) :=
  .br 0 (pdec (0 ≤ x0 ∧ PlInv n1 g1 n2 g2)) (.ok (.exit 2, [])) .no
noncomputable def OL_TlbPlays_29 (l : List At) : Tr (Ex × List At) := O_TlbPlays_29 (aI l 0) (aRn l 1) (aRg l 1) (aRn l 2) (aRg l 2)
def μ_TlbPlays_29 (l : List At) : Nat := ((aRn l 2 : Int) - aI l 0).toNat

/-- Each way is the first one of its key. -/
theorem idx_own {n : Nat} {g : Nat → Nat → Int} (hd : Dist n g) {i : Nat} (hi : i < n) : idx n g (g i 0) (g i 1) = i := by
  obtain ⟨a1, a2, a3⟩ := idx_spec n g (g i 0) (g i 1)
  rcases Nat.lt_trichotomy (idx n g (g i 0) (g i 1)) i with h | h | h
  · exfalso
    exact hd _ i h hi (hit_iff.1 (a2 (by omega)))
  · exact h
  · exfalso
    have := a3 i h
    rw [hit_not] at this
    exact this ⟨rfl, rfl⟩

theorem rd_TlbPlays_29 : ∀ l r, (OL_TlbPlays_29 l).val = some r → RoundS BL_TlbPlays_29 OL_TlbPlays_29 μ_TlbPlays_29 l r := by
  intro l r hh
  unfold OL_TlbPlays_29 at hh
  obtain ⟨hc, h⟩ := guard_val hh
  clear hh
  obtain ⟨c0, inv⟩ := of_pdec hc
  have hv := val_ok h
  subst hv
  unfold RoundS BL_TlbPlays_29 B_TlbPlays_29 
  generalize hx0 : aI l 0 = x0 at *
  generalize hn1 : aRn l 1 = n1 at *
  generalize hg1 : aRg l 1 = g1 at *
  generalize hn2 : aRn l 2 = n2 at *
  generalize hg2 : aRg l 2 = g2 at *
  have hnum := inv.num
  have hle := inv.le
  refine brD (fun h1 => ?_) (fun h1 => out_ (by simp) rfl (AtsEq.refl _))
  have hin : within x0 n2 = true := by simp only [within, Bool.and_eq_true, decide_eq_true_eq]; omega
  have hi : x0.toNat < n1 := by omega
  have hw : IntKind.i64.wrap (x0 + 1) = x0 + 1 := wrap_i64 (by omega) (by omega)
  have hμ : ((n2 : Int) - (x0 + 1)).toNat < μ_TlbPlays_29 l := by unfold μ_TlbPlays_29; rw [hx0, hn2]; omega
  have hq : 0 ≤ x0 + 1 ∧ PlInv n1 g1 n2 g2 := ⟨by omega, inv⟩
  have e := inv.same x0.toNat hi
  have ho := idx_own inv.dist hi
  rw [e 0 (by decide), e 1 (by decide)] at ho
  have hf : fnd n1 g1 (g2 x0.toNat 0) (g2 x0.toNat 1) = true := decide_eq_true (by rw [ho]; exact hi)
  have hI : ∀ c, c < 5 → fndI n1 g1 (g2 x0.toNat 0) (g2 x0.toNat 1) c = g2 x0.toNat c := fun c hc5 => by
    unfold fndI; rw [hf, cond_true, ho]; exact e c hc5
  rw [hf, hI 2 (by decide), hI 3 (by decide), hI 4 (by decide), hw]
  refine brT hin (brT hin (brT (decide_eq_true (by omega)) (brF rfl (brT hin (brF (by simp) ?_)))))
  exact on_ _ (.exit 2, []) (AtsEq.refl _) hμ (br_t (g := 0) (pdec_yes hq)) rfl (AtsEq.refl _)
end Go.Proofs.Ytimdpdkgiibndaa.G
end

/-
  What functions of the seat compute, printed by a program from the explorer.
-/
section
namespace Go.Proofs.Ytimdpdkgiibndaa.G
open Go Go.AM Go.Proofs
theorem f_TlbPlays_29 : LoopF Try.prog 1 (loopAt Try.f5 29) (loopFn 1 lsh_TlbPlays_29 xs_TlbPlays_29 OL_TlbPlays_29) :=
  loop_sat (sy := y_TlbPlays_29) (fuel := 100) (Lp := Lp_TlbPlays_7) o_clone mixed (loopsOK_at lk_TlbPlays_7 29) rfl eB_TlbPlays_29 rd_TlbPlays_29
noncomputable def Lp_TlbPlays_29 : Loops := Loops.set Lp_TlbPlays_7 29 (loopFn 1 lsh_TlbPlays_29 xs_TlbPlays_29 OL_TlbPlays_29)
theorem lk_TlbPlays_29 : LoopsFn Try.prog 1 Lp_TlbPlays_29 Try.f5 := loopsFn_set lk_TlbPlays_7 (by kernel_rfl) f_TlbPlays_29

/-! ### TlbPlays -/

noncomputable def ish_TlbPlays : FSh := ⟨[.v false [.vw 0 6]], [.rows [.n .i64, .n .u64, .n .u64, .n .i64, .n .i64, .n .i64] false]⟩
noncomputable def osh_TlbPlays : FSh := ⟨[.v false [.k .b]], [.no]⟩
noncomputable def TlbPlays_c0 (n0 : Nat) (g0 : Nat → Nat → Int) : Bool := Go.Proofs.Ytimdpdkgiibndaa.G.pdec ((0 : Int) ≤ (0 : Int) ∧ Go.Proofs.Ytimdpdkgiibndaa.G.PlInv (Go.Proofs.Ytimdpdkgiibndaa.G.plL (0 : Nat) g0 (Min.min n0 (100 : Nat) - (0 : Nat)) (0 : Nat) ((0 : Nat), fun (_ _ : Nat) => (0 : Int), (0 : Nat), fun (_ _ : Nat) => (0 : Int))).fst (Go.Proofs.Ytimdpdkgiibndaa.G.plL (0 : Nat) g0 (Min.min n0 (100 : Nat) - (0 : Nat)) (0 : Nat) ((0 : Nat), fun (_ _ : Nat) => (0 : Int), (0 : Nat), fun (_ _ : Nat) => (0 : Int))).snd.fst (Go.Proofs.Ytimdpdkgiibndaa.G.plL (0 : Nat) g0 (Min.min n0 (100 : Nat) - (0 : Nat)) (0 : Nat) ((0 : Nat), fun (_ _ : Nat) => (0 : Int), (0 : Nat), fun (_ _ : Nat) => (0 : Int))).snd.snd.fst (Go.Proofs.Ytimdpdkgiibndaa.G.plL (0 : Nat) g0 (Min.min n0 (100 : Nat) - (0 : Nat)) (0 : Nat) ((0 : Nat), fun (_ _ : Nat) => (0 : Int), (0 : Nat), fun (_ _ : Nat) => (0 : Int))).snd.snd.snd)
noncomputable def T_TlbPlays (n0 : Nat) (g0 : Nat → Nat → Int) : Tr (List At) :=
 .br 0 (Bool.true)
 (.br 0 (Bool.true)
 (.br 0 (Bool.true)
 (.br 0 (Bool.true)
 (.br 0 (Bool.true)
 (.br 0 (Bool.true)
 (.br 0 (Bool.true)
 (.br 0 (Bool.true)
 (.br 0 (Bool.true)
 (.br 0 (Bool.true)
 (.br 0 (Bool.true)
 (.br 0 (Bool.true)
 (.br 0 (Go.Proofs.Ytimdpdkgiibndaa.G.pdec ((0 : Int) ≤ (0 : Int) ∧ Go.Proofs.Ytimdpdkgiibndaa.G.PlInv (0 : Nat) (fun (_ _ : Nat) => (0 : Int)) (0 : Nat) fun (x x_1 : Nat) => (0 : Int)))
 (.br 0 ((TlbPlays_c0 n0 g0))
 (.ok [(.b (Bool.true))])
 (.no))
 (.no))
 (.no))
 (.no))
 (.no))
 (.no))
 (.no))
 (.no))
 (.no))
 (.no))
 (.no))
 (.no))
 (.no))
 (.no)
noncomputable def y_TlbPlays : Nat → Option Nat := (syOf3 [] [] [])
noncomputable def TL_TlbPlays (l : List At) : Tr (List At) := T_TlbPlays (aRn l 0) (aRg l 0)
theorem e_TlbPlays (l : List At) : (call Try.prog Γ_clone y_TlbPlays Lp_TlbPlays_29 100 Try.f5 (mkV ish_TlbPlays l) (mkH ish_TlbPlays l)).bind (leafO ish_TlbPlays.hp.length ⟨[.v false [.k .b]], List.replicate ish_TlbPlays.hp.length .no⟩) = TL_TlbPlays l := by kernel_rfl

end Go.Proofs.Ytimdpdkgiibndaa.G
end

/-
  The plain law of TlbPlays.
-/
section
namespace Go.Proofs.Ytimdpdkgiibndaa.G
open Go Go.AM Go.Proofs

theorem vc_TlbPlays (n0 : Nat) (g0 : Nat → Nat → Int) (_b : n0 ≤ maxLen) (_w : ∀ (i c : Nat) (k : SK), i < n0 → [SK.n .i64, SK.n .u64, SK.n .u64, SK.n .i64, SK.n .i64, SK.n .i64][c]? = some k → wfS k (g0 i c)) :
    (T_TlbPlays n0 g0).sat fun r => r = [.b true] := by
  have h0 : (0 : Int) ≤ 0 ∧ PlInv 0 (fun (_ _ : Nat) => (0 : Int)) 0 (fun (_ _ : Nat) => (0 : Int)) := ⟨Int.le_refl _, pl_zero⟩
  have h1 := pl_all 0 g0 (min n0 100 - 0) 0 (0, (fun _ _ => 0), 0, (fun _ _ => 0)) pl_zero
  unfold T_TlbPlays
  exact brT rfl (brT rfl (brT rfl (brT rfl (brT rfl (brT rfl (brT rfl (brT rfl (brT rfl (brT rfl (brT rfl (brT rfl (brT (pdec_yes h0) (brT (pdec_yes ⟨Int.le_refl _, h1⟩) (Tr.sat_ok.2 rfl))))))))))))))
end Go.Proofs.Ytimdpdkgiibndaa.G
end
