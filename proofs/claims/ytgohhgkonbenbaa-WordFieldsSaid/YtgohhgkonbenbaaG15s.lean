/-
  What functions of the seat compute, printed by a program from the explorer.
-/
import Derived.Test.YtgohhgkonbenbaaU15
import Derived.KernelRfl
namespace Go.Proofs.Ytgohhgkonbenbaa.G
open Go Go.AM Go.Proofs
def O15_5 (a : Nat → TV) (H : AH) (x7 : Int) (x8 : Int) (x0 : Int) (x1 : Int) (x2 : Int) : Tr (Ex × ASt) :=
 .ok (.exit 0, ⟨[.v (.s (.n .u64 x0)), .v (.s (.n .i64 x1)), .v (.s (.n .i64 x2)), a 3, a 4, a 5, a 6, .v (.s (.n .u64 (g15_5_0_7 x7 x8 x0 x1 x2))), .any, a 9, a 10, a 11, a 12, .any, .any, .any, .any, .any, .any, .any, .any, .any, .any, .any, .any, .any, .any, a 27], H⟩)
def F15_5 : ASt → Tr (Ex × ASt) := fun s => lenIs 28 s.tm (getN .u64 (s.tm.getD 7 .any) fun x7 => getN .i64 (s.tm.getD 8 .any) fun x8 => getN .u64 (s.tm.getD 0 .any) fun x0 => getN .i64 (s.tm.getD 1 .any) fun x1 => getN .i64 (s.tm.getD 2 .any) fun x2 => .br 0 (pre15_5 x7 x8 x0 x1 x2) (O15_5 (fun i => s.tm.getD i .any) s.hp x7 x8 x0 x1 x2) .no)
abbrev X15_5 := (Nat → TV) × AH × Int × Int × Int × Int × Int
def sS15_5 : X15_5 → ASt := fun (a, H, x7, x8, x0, x1, x2) => S15_5 a H x7 x8 x0 x1 x2
def sB15_5 : X15_5 → Tr (Ex × ASt) := fun (a, H, x7, x8, x0, x1, x2) => B15_5 a H x7 x8 x0 x1 x2
def sO15_5 : X15_5 → Tr (Ex × ASt) := fun (a, H, x7, x8, x0, x1, x2) => O15_5 a H x7 x8 x0 x1 x2
def sP15_5 : X15_5 → Bool := fun (a, H, x7, x8, x0, x1, x2) => pre15_5 x7 x8 x0 x1 x2
theorem f15_5 (hL : LoopsFn Try.prog noLoops Try.f15) (μ : X15_5 → Nat) (h : ∀ x, sP15_5 x = true → Round sS15_5 sB15_5 sO15_5 sP15_5 μ x) : LoopF Try.prog (loopAt Try.f15 5) F15_5 := by
  intro s r h1
  have hR := loop_rounds (sy := yl15_5) (fuel := 100) o25 mixed (loopsOK_at hL 5) (S := sS15_5) (B := sB15_5) (fun ⟨a, H, x7, x8, x0, x1, x2⟩ => eB15_5 a H x7 x8 x0 x1 x2) h
  unfold F15_5 at h1
  obtain ⟨hl, h⟩ := lenIs_val h1
  obtain ⟨x7, h7, h⟩ := getN_val h
  obtain ⟨x8, h8, h⟩ := getN_val h
  obtain ⟨x0, h0, h⟩ := getN_val h
  obtain ⟨x1, h1, h⟩ := getN_val h
  obtain ⟨x2, h2, h⟩ := getN_val h
  obtain ⟨hp, h⟩ := guard_val h
  refine Goes.weak_in ?_ (hR (fun i => s.tm.getD i .any, s.hp, x7, x8, x0, x1, x2) hp r h)
  obtain ⟨tm, H⟩ := s
  refine Weak.mk' ?_
  rw [show tm = slots (fun i => tm.getD i .any) 0 28 from slots_eq hl]
  exact all2_cons (weakB.eq h0) (all2_cons (weakB.eq h1) (all2_cons (weakB.eq h2) (all2_cons (weakB.refl _) (all2_cons (weakB.refl _) (all2_cons (weakB.refl _) (all2_cons (weakB.refl _) (all2_cons (weakB.eq h7) (all2_cons (weakB.eq h8) (all2_cons (weakB.refl _) (all2_cons (weakB.refl _) (all2_cons (weakB.refl _) (all2_cons (weakB.refl _) (all2_cons (weakB.any _) (all2_cons (weakB.any _) (all2_cons (weakB.any _) (all2_cons (weakB.any _) (all2_cons (weakB.any _) (all2_cons (weakB.any _) (all2_cons (weakB.any _) (all2_cons (weakB.any _) (all2_cons (weakB.any _) (all2_cons (weakB.any _) (all2_cons (weakB.any _) (all2_cons (weakB.any _) (all2_cons (weakB.any _) (all2_cons (weakB.any _) (all2_cons (weakB.refl _) (all2_nil))))))))))))))))))))))))))))

def O13_4 (a : Nat → TV) (H : AH) (x10 : Int) (x3 : Int) : Tr (Ex × ASt) :=
 .br 0 (sel13_4_0 x10 x3) (.ok (.ret, ⟨[a 0, a 1, a 2, .v (.s (.n .u64 x3)), a 4, a 5, a 6, a 7, .v (.s (.n .u64 (g13_4_0_8 x10 x3))), .v (.s (.n .i64 (g13_4_0_9 x10 x3))), .any, a 11, a 12, a 13, a 14, a 15, a 16, .any, .any, .any, .any, .any, .any, .any, .any, a 25, a 26, a 27, a 28, a 29, a 30, a 31, a 32, a 33, a 34, a 35, a 36, a 37, a 38, a 39, a 40, a 41, a 42, a 43, a 44, a 45], H⟩)) (.ok (.exit 0, ⟨[a 0, a 1, a 2, .v (.s (.n .u64 x3)), a 4, a 5, a 6, a 7, .any, .any, .any, a 11, a 12, a 13, a 14, a 15, a 16, .any, .any, .any, .any, .any, .any, .any, .any, a 25, a 26, a 27, a 28, a 29, a 30, a 31, a 32, a 33, a 34, a 35, a 36, a 37, a 38, a 39, a 40, a 41, a 42, a 43, a 44, a 45], H⟩))
def F13_4 : ASt → Tr (Ex × ASt) := fun s => lenIs 46 s.tm (getN .i64 (s.tm.getD 10 .any) fun x10 => getN .u64 (s.tm.getD 3 .any) fun x3 => .br 0 (pre13_4 x10 x3) (O13_4 (fun i => s.tm.getD i .any) s.hp x10 x3) .no)
abbrev X13_4 := (Nat → TV) × AH × Int × Int
def sS13_4 : X13_4 → ASt := fun (a, H, x10, x3) => S13_4 a H x10 x3
def sB13_4 : X13_4 → Tr (Ex × ASt) := fun (a, H, x10, x3) => B13_4 a H x10 x3
def sO13_4 : X13_4 → Tr (Ex × ASt) := fun (a, H, x10, x3) => O13_4 a H x10 x3
def sP13_4 : X13_4 → Bool := fun (a, H, x10, x3) => pre13_4 x10 x3
theorem f13_4 (hL : LoopsFn Try.prog noLoops Try.f13) (μ : X13_4 → Nat) (h : ∀ x, sP13_4 x = true → Round sS13_4 sB13_4 sO13_4 sP13_4 μ x) : LoopF Try.prog (loopAt Try.f13 4) F13_4 := by
  intro s r h1
  have hR := loop_rounds (sy := yl13_4) (fuel := 100) o25 mixed (loopsOK_at hL 4) (S := sS13_4) (B := sB13_4) (fun ⟨a, H, x10, x3⟩ => eB13_4 a H x10 x3) h
  unfold F13_4 at h1
  obtain ⟨hl, h⟩ := lenIs_val h1
  obtain ⟨x10, h10, h⟩ := getN_val h
  obtain ⟨x3, h3, h⟩ := getN_val h
  obtain ⟨hp, h⟩ := guard_val h
  refine Goes.weak_in ?_ (hR (fun i => s.tm.getD i .any, s.hp, x10, x3) hp r h)
  obtain ⟨tm, H⟩ := s
  refine Weak.mk' ?_
  rw [show tm = slots (fun i => tm.getD i .any) 0 46 from slots_eq hl]
  exact all2_cons (weakB.refl _) (all2_cons (weakB.refl _) (all2_cons (weakB.refl _) (all2_cons (weakB.eq h3) (all2_cons (weakB.refl _) (all2_cons (weakB.refl _) (all2_cons (weakB.refl _) (all2_cons (weakB.refl _) (all2_cons (weakB.any _) (all2_cons (weakB.any _) (all2_cons (weakB.eq h10) (all2_cons (weakB.refl _) (all2_cons (weakB.refl _) (all2_cons (weakB.refl _) (all2_cons (weakB.refl _) (all2_cons (weakB.refl _) (all2_cons (weakB.refl _) (all2_cons (weakB.any _) (all2_cons (weakB.any _) (all2_cons (weakB.any _) (all2_cons (weakB.any _) (all2_cons (weakB.any _) (all2_cons (weakB.any _) (all2_cons (weakB.any _) (all2_cons (weakB.any _) (all2_cons (weakB.refl _) (all2_cons (weakB.refl _) (all2_cons (weakB.refl _) (all2_cons (weakB.refl _) (all2_cons (weakB.refl _) (all2_cons (weakB.refl _) (all2_cons (weakB.refl _) (all2_cons (weakB.refl _) (all2_cons (weakB.refl _) (all2_cons (weakB.refl _) (all2_cons (weakB.refl _) (all2_cons (weakB.refl _) (all2_cons (weakB.refl _) (all2_cons (weakB.refl _) (all2_cons (weakB.refl _) (all2_cons (weakB.refl _) (all2_cons (weakB.refl _) (all2_cons (weakB.refl _) (all2_cons (weakB.refl _) (all2_cons (weakB.refl _) (all2_cons (weakB.refl _) (all2_nil))))))))))))))))))))))))))))))))))))))))))))))

def O13_9 (a : Nat → TV) (H : AH) (x0 : Int) (x11 : Int) (x1 : Int) (x2 : Int) (x3 : Int) : Tr (Ex × ASt) :=
 .ok (.exit 2, ⟨[.v (.s (.n .u64 (g13_9_0_0 x0 x11 x1 x2 x3))), .v (.s (.n .i64 x1)), .v (.s (.n .i64 x2)), .v (.s (.n .u64 x3)), a 4, a 5, a 6, a 7, a 8, a 9, a 10, .any, a 12, a 13, a 14, a 15, a 16, a 17, a 18, a 19, a 20, a 21, a 22, a 23, a 24, .any, .any, .any, .any, .any, .any, .any, .any, .any, .any, .any, .any, .any, .any, .any, .any, .any, .any, .any, .any, a 45], H⟩)
def F13_9 : ASt → Tr (Ex × ASt) := fun s => lenIs 46 s.tm (getN .u64 (s.tm.getD 0 .any) fun x0 => getN .i64 (s.tm.getD 11 .any) fun x11 => getN .i64 (s.tm.getD 1 .any) fun x1 => getN .i64 (s.tm.getD 2 .any) fun x2 => getN .u64 (s.tm.getD 3 .any) fun x3 => .br 0 (pre13_9 x0 x11 x1 x2 x3) (O13_9 (fun i => s.tm.getD i .any) s.hp x0 x11 x1 x2 x3) .no)
abbrev X13_9 := (Nat → TV) × AH × Int × Int × Int × Int × Int
def sS13_9 : X13_9 → ASt := fun (a, H, x0, x11, x1, x2, x3) => S13_9 a H x0 x11 x1 x2 x3
def sB13_9 : X13_9 → Tr (Ex × ASt) := fun (a, H, x0, x11, x1, x2, x3) => B13_9 a H x0 x11 x1 x2 x3
def sO13_9 : X13_9 → Tr (Ex × ASt) := fun (a, H, x0, x11, x1, x2, x3) => O13_9 a H x0 x11 x1 x2 x3
def sP13_9 : X13_9 → Bool := fun (a, H, x0, x11, x1, x2, x3) => pre13_9 x0 x11 x1 x2 x3
theorem f13_9 (hL : LoopsFn Try.prog noLoops Try.f13) (μ : X13_9 → Nat) (h : ∀ x, sP13_9 x = true → Round sS13_9 sB13_9 sO13_9 sP13_9 μ x) : LoopF Try.prog (loopAt Try.f13 9) F13_9 := by
  intro s r h1
  have hR := loop_rounds (sy := yl13_9) (fuel := 100) o25 mixed (loopsOK_at hL 9) (S := sS13_9) (B := sB13_9) (fun ⟨a, H, x0, x11, x1, x2, x3⟩ => eB13_9 a H x0 x11 x1 x2 x3) h
  unfold F13_9 at h1
  obtain ⟨hl, h⟩ := lenIs_val h1
  obtain ⟨x0, h0, h⟩ := getN_val h
  obtain ⟨x11, h11, h⟩ := getN_val h
  obtain ⟨x1, h1, h⟩ := getN_val h
  obtain ⟨x2, h2, h⟩ := getN_val h
  obtain ⟨x3, h3, h⟩ := getN_val h
  obtain ⟨hp, h⟩ := guard_val h
  refine Goes.weak_in ?_ (hR (fun i => s.tm.getD i .any, s.hp, x0, x11, x1, x2, x3) hp r h)
  obtain ⟨tm, H⟩ := s
  refine Weak.mk' ?_
  rw [show tm = slots (fun i => tm.getD i .any) 0 46 from slots_eq hl]
  exact all2_cons (weakB.eq h0) (all2_cons (weakB.eq h1) (all2_cons (weakB.eq h2) (all2_cons (weakB.eq h3) (all2_cons (weakB.refl _) (all2_cons (weakB.refl _) (all2_cons (weakB.refl _) (all2_cons (weakB.refl _) (all2_cons (weakB.refl _) (all2_cons (weakB.refl _) (all2_cons (weakB.refl _) (all2_cons (weakB.eq h11) (all2_cons (weakB.refl _) (all2_cons (weakB.refl _) (all2_cons (weakB.refl _) (all2_cons (weakB.refl _) (all2_cons (weakB.refl _) (all2_cons (weakB.refl _) (all2_cons (weakB.refl _) (all2_cons (weakB.refl _) (all2_cons (weakB.refl _) (all2_cons (weakB.refl _) (all2_cons (weakB.refl _) (all2_cons (weakB.refl _) (all2_cons (weakB.refl _) (all2_cons (weakB.any _) (all2_cons (weakB.any _) (all2_cons (weakB.any _) (all2_cons (weakB.any _) (all2_cons (weakB.any _) (all2_cons (weakB.any _) (all2_cons (weakB.any _) (all2_cons (weakB.any _) (all2_cons (weakB.any _) (all2_cons (weakB.any _) (all2_cons (weakB.any _) (all2_cons (weakB.any _) (all2_cons (weakB.any _) (all2_cons (weakB.any _) (all2_cons (weakB.any _) (all2_cons (weakB.any _) (all2_cons (weakB.any _) (all2_cons (weakB.any _) (all2_cons (weakB.any _) (all2_cons (weakB.any _) (all2_cons (weakB.refl _) (all2_nil))))))))))))))))))))))))))))))))))))))))))))))

end Go.Proofs.Ytgohhgkonbenbaa.G
