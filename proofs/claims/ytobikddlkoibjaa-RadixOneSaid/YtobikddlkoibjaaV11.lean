/-
  The plain law of RadixOne.
-/
import Derived.Test.YtobikddlkoibjaaX11
import Derived.Test.YtobikddlkoibjaaAn5ToAnR
import Derived.KernelRfl
namespace Go.Proofs.Ytobikddlkoibjaa.G
open Go Go.AM Go.Proofs

def setB (n : Nat) (a : Int) : List Int → Nat → List Int
  | [], _ => []
  | x :: l, k => (bif Nat.beq n k then a else x) :: setB n a l (k + 1)
theorem setB_len (n : Nat) (a : Int) : ∀ (l : List Int) (k : Nat), (setB n a l k).length = l.length
  | [], _ => rfl
  | x :: l, k => by rw [setB, List.length_cons, List.length_cons, setB_len n a l (k + 1)]
theorem setB_get (n : Nat) (a : Int) : ∀ (l : List Int) (k j : Nat), j < l.length → (setB n a l k).getD j 0 = bif Nat.beq n (k + j) then a else l.getD j 0
  | [], _, j, h => by simp at h
  | x :: l, k, 0, _ => rfl
  | x :: l, k, j + 1, h => by
    have := setB_get n a l (k + 1) j (by simpa using h)
    rw [setB, List.getD_cons_succ, List.getD_cons_succ, this, show k + 1 + j = k + (j + 1) by omega]
theorem nbeq {a b : Nat} (h : a ≠ b) : Nat.beq a b = false := by
  cases hb : Nat.beq a b with
  | false => rfl
  | true => exact (h (Nat.eq_of_beq_eq_true hb)).elim

section
variable (K V L : List Int)
def oneT (i a b c : Int) : Tr (List At) :=
  .br 200022 (within i 49) (.br 200030 (within i 49) (.br 33 (K.getD i.toNat 0 == a && (V.getD i.toNat 0 == b && (L.getD i.toNat 0 == c && true)))
    (.ok [.b ((((dfs K V L (setB i.toNat a K 0) (setB i.toNat b V 0) (setB i.toNat c L 0) 7 0).length : Nat) : Int) == 0)])
    (.br 46 ((((dfs K V L K V L 7 0).length : Nat) : Int) == 0) (.br 51 ((((dfs K V L (setB i.toNat a K 0) (setB i.toNat b V 0) (setB i.toNat c L 0) 7 0).length : Nat) : Int) == 1) (.br 53 (within 0 (dfs K V L (setB i.toNat a K 0) (setB i.toNat b V 0) (setB i.toNat c L 0) 7 0).length)
      (.ok [.b (gcol (fun k => (dfs K V L (setB i.toNat a K 0) (setB i.toNat b V 0) (setB i.toNat c L 0) 7 0).getD k 0) 0 0 == IntKind.i64.wrap (Int.tdiv i 7))]) .no) (.ok [.b false])) (.ok [.b false]))) .no) .no
end

theorem dfs_none {K V L K' V' L' : List Int} : ∀ m k, (∀ j, k ≤ j → j < k + m → lfEq K V L K' V' L' j = true) → dfs K V L K' V' L' m k = []
  | 0, _, _ => rfl
  | m + 1, k, h => by
    rw [dfs, h k (by omega) (by omega)]
    exact dfs_none m (k + 1) fun j h1 h2 => h j (by omega) (by omega)
theorem dfs_one {K V L K' V' L' : List Int} {q : Nat} (hq : lfEq K V L K' V' L' q = false) : ∀ m k, k ≤ q → q < k + m → (∀ j, j ≠ q → j < k + m → lfEq K V L K' V' L' j = true) → dfs K V L K' V' L' m k = [(q : Int)]
  | 0, _, h1, h2, _ => by omega
  | m + 1, k, h1, h2, h => by
    by_cases e : k = q
    · subst e
      rw [dfs, hq]
      show (k : Int) :: dfs K V L K' V' L' m (k + 1) = _
      rw [dfs_none m (k + 1) fun j h3 h4 => h j (by omega) (by omega)]
    · rw [dfs, h k e (by omega)]
      exact dfs_one hq m (k + 1) (by omega) (by omega) fun j h3 h4 => h j h3 (by omega)

theorem eqE_set {K V L : List Int} (hK : K.length = 49) (hV : V.length = 49) (hL : L.length = 49) (n : Nat) (a b c : Int) (j : Nat) (hj : j < 49) :
    eqE K V L (setB n a K 0) (setB n b V 0) (setB n c L 0) j = bif Nat.beq n j then (K.getD j 0 == a && (V.getD j 0 == b && (L.getD j 0 == c && true))) else true := by
  unfold eqE
  rw [setB_get n a K 0 j (by omega), setB_get n b V 0 j (by omega), setB_get n c L 0 j (by omega), Nat.zero_add]
  cases Nat.beq n j with
  | true => rfl
  | false => simp only [cond_false, beq_self_eq_true, Bool.and_self]

theorem oneT_sat {K V L : List Int} (hK : K.length = 49) (hV : V.length = 49) (hL : L.length = 49) {i : Int} (a b c : Int) (h0 : 0 ≤ i) (h1 : i < 49) : (oneT K V L i a b c).sat fun r => r = [.b true] := by
  obtain ⟨n, rfl⟩ : ∃ n : Nat, i = n := ⟨i.toNat, by omega⟩
  have hn : (n : Int).toNat = n := by omega
  have hE := eqE_set hK hV hL n a b c
  have other : ∀ k, k < 7 → k ≠ n / 7 → lfEq K V L (setB n a K 0) (setB n b V 0) (setB n c L 0) k = true := fun k hk hne => lf_all fun j hj => by
    rw [hE (7 * k + j) (by omega), nbeq (by omega)]; rfl
  have same : dfs K V L K V L 7 0 = [] := dfs_none 7 0 fun k _ _ => lf_all fun j _ => by unfold eqE; simp only [beq_self_eq_true, Bool.and_self]
  unfold oneT
  rw [hn]
  refine brW (fun _ => brW (fun _ => brC (fun he => ?_) (fun he => ?_)) (fun hh => by exfalso; omega)) (fun hh => by exfalso; omega)
  · have e : dfs K V L (setB n a K 0) (setB n b V 0) (setB n c L 0) 7 0 = [] := dfs_none 7 0 fun k _ h2 => by
      by_cases hk : k = n / 7
      · refine lf_all fun j hj => ?_
        rw [hE (7 * k + j) (by omega)]
        by_cases hj2 : n = 7 * k + j
        · rw [← hj2, he]; cases Nat.beq n n <;> rfl
        · rw [nbeq hj2]; rfl
      · exact other k (by omega) hk
    rw [e]
    exact Tr.sat_ok.2 rfl
  · have hq : lfEq K V L (setB n a K 0) (setB n b V 0) (setB n c L 0) (n / 7) = false := lf_one (i := n % 7) (by omega) (by
      rw [show 7 * (n / 7) + n % 7 = n by omega, hE n (by omega), Nat.beq_refl, he]; rfl)
    have e : dfs K V L (setB n a K 0) (setB n b V 0) (setB n c L 0) 7 0 = [((n / 7 : Nat) : Int)] := dfs_one hq 7 0 (by omega) (by omega) fun j h2 h3 => other j (by omega) h2
    rw [e, same]
    refine brT rfl (brT rfl (brT rfl (Tr.sat_ok.2 ?_)))
    have hd : Int.tdiv (n : Int) 7 = ((n / 7 : Nat) : Int) := rfl
    rw [hd, wrap_i64 (by omega) (by omega)]
    show [At.b (((n / 7 : Nat) : Int) == ((n / 7 : Nat) : Int))] = _
    rw [beq_self_eq_true]

theorem x_RadixOne (x0 x1 x2 x3 x4 x5 x6 x7 x8 x9 x10 x11 x12 x13 x14 x15 x16 x17 x18 x19 x20 x21 x22 x23 x24 x25 x26 x27 x28 x29 x30 x31 x32 x33 x34 x35 x36 x37 x38 x39 x40 x41 x42 x43 x44 x45 x46 x47 x48 x49 x50 x51 x52 x53 x54 x55 x56 x57 x58 x59 x60 x61 x62 x63 x64 x65 x66 x67 x68 x69 x70 x71 x72 x73 x74 x75 x76 x77 x78 x79 x80 x81 x82 x83 x84 x85 x86 x87 x88 x89 x90 x91 x92 x93 x94 x95 x96 x97 x98 x99 x100 x101 x102 x103 x104 x105 x106 x107 x108 x109 x110 x111 x112 x113 x114 x115 x116 x117 x118 x119 x120 x121 x122 x123 x124 x125 x126 x127 x128 x129 x130 x131 x132 x133 x134 x135 x136 x137 x138 x139 x140 x141 x142 x143 x144 x145 x146 x147 x148 x149 x150 : Int) : T_RadixOne x0 x1 x2 x3 x4 x5 x6 x7 x8 x9 x10 x11 x12 x13 x14 x15 x16 x17 x18 x19 x20 x21 x22 x23 x24 x25 x26 x27 x28 x29 x30 x31 x32 x33 x34 x35 x36 x37 x38 x39 x40 x41 x42 x43 x44 x45 x46 x47 x48 x49 x50 x51 x52 x53 x54 x55 x56 x57 x58 x59 x60 x61 x62 x63 x64 x65 x66 x67 x68 x69 x70 x71 x72 x73 x74 x75 x76 x77 x78 x79 x80 x81 x82 x83 x84 x85 x86 x87 x88 x89 x90 x91 x92 x93 x94 x95 x96 x97 x98 x99 x100 x101 x102 x103 x104 x105 x106 x107 x108 x109 x110 x111 x112 x113 x114 x115 x116 x117 x118 x119 x120 x121 x122 x123 x124 x125 x126 x127 x128 x129 x130 x131 x132 x133 x134 x135 x136 x137 x138 x139 x140 x141 x142 x143 x144 x145 x146 x147 x148 x149 x150 = .br 0 true (.br 0 true (.br 16 (decide (Int.tmod x147 49 < 0)) (oneT [x0, x3, x6, x9, x12, x15, x18, x21, x24, x27, x30, x33, x36, x39, x42, x45, x48, x51, x54, x57, x60, x63, x66, x69, x72, x75, x78, x81, x84, x87, x90, x93, x96, x99, x102, x105, x108, x111, x114, x117, x120, x123, x126, x129, x132, x135, x138, x141, x144] [x1, x4, x7, x10, x13, x16, x19, x22, x25, x28, x31, x34, x37, x40, x43, x46, x49, x52, x55, x58, x61, x64, x67, x70, x73, x76, x79, x82, x85, x88, x91, x94, x97, x100, x103, x106, x109, x112, x115, x118, x121, x124, x127, x130, x133, x136, x139, x142, x145] [x2, x5, x8, x11, x14, x17, x20, x23, x26, x29, x32, x35, x38, x41, x44, x47, x50, x53, x56, x59, x62, x65, x68, x71, x74, x77, x80, x83, x86, x89, x92, x95, x98, x101, x104, x107, x110, x113, x116, x119, x122, x125, x128, x131, x134, x137, x140, x143, x146] (IntKind.i64.wrap (0 - Int.tmod x147 49)) x148 x149 x150) (oneT [x0, x3, x6, x9, x12, x15, x18, x21, x24, x27, x30, x33, x36, x39, x42, x45, x48, x51, x54, x57, x60, x63, x66, x69, x72, x75, x78, x81, x84, x87, x90, x93, x96, x99, x102, x105, x108, x111, x114, x117, x120, x123, x126, x129, x132, x135, x138, x141, x144] [x1, x4, x7, x10, x13, x16, x19, x22, x25, x28, x31, x34, x37, x40, x43, x46, x49, x52, x55, x58, x61, x64, x67, x70, x73, x76, x79, x82, x85, x88, x91, x94, x97, x100, x103, x106, x109, x112, x115, x118, x121, x124, x127, x130, x133, x136, x139, x142, x145] [x2, x5, x8, x11, x14, x17, x20, x23, x26, x29, x32, x35, x38, x41, x44, x47, x50, x53, x56, x59, x62, x65, x68, x71, x74, x77, x80, x83, x86, x89, x92, x95, x98, x101, x104, x107, x110, x113, x116, x119, x122, x125, x128, x131, x134, x137, x140, x143, x146] (Int.tmod x147 49) x148 x149 x150)) .no) .no := by kernel_rfl

theorem tmod49 (x : Int) : -49 < Int.tmod x 49 ∧ Int.tmod x 49 < 49 := by
  rcases Int.le_total 0 x with h | h
  · have h1 := Int.tmod_nonneg 49 h
    have h2 := Int.tmod_lt_of_pos x (b := 49) (by omega)
    omega
  · have h1 := Int.tmod_nonneg 49 (a := -x) (by omega)
    have h2 := Int.tmod_lt_of_pos (-x) (b := 49) (by omega)
    have h3 := Int.neg_tmod x 49
    omega

theorem vc_RadixOne (x0 x1 x2 x3 x4 x5 x6 x7 x8 x9 x10 x11 x12 x13 x14 x15 x16 x17 x18 x19 x20 x21 x22 x23 x24 x25 x26 x27 x28 x29 x30 x31 x32 x33 x34 x35 x36 x37 x38 x39 x40 x41 x42 x43 x44 x45 x46 x47 x48 x49 x50 x51 x52 x53 x54 x55 x56 x57 x58 x59 x60 x61 x62 x63 x64 x65 x66 x67 x68 x69 x70 x71 x72 x73 x74 x75 x76 x77 x78 x79 x80 x81 x82 x83 x84 x85 x86 x87 x88 x89 x90 x91 x92 x93 x94 x95 x96 x97 x98 x99 x100 x101 x102 x103 x104 x105 x106 x107 x108 x109 x110 x111 x112 x113 x114 x115 x116 x117 x118 x119 x120 x121 x122 x123 x124 x125 x126 x127 x128 x129 x130 x131 x132 x133 x134 x135 x136 x137 x138 x139 x140 x141 x142 x143 x144 x145 x146 x147 x148 x149 x150 : Int) (_h0 : IntKind.min .i64 ≤ x0) (_k0 : x0 ≤ IntKind.max .i64) (_h1 : IntKind.min .i64 ≤ x1) (_k1 : x1 ≤ IntKind.max .i64) (_h2 : IntKind.min .i64 ≤ x2) (_k2 : x2 ≤ IntKind.max .i64) (_h3 : IntKind.min .i64 ≤ x3) (_k3 : x3 ≤ IntKind.max .i64) (_h4 : IntKind.min .i64 ≤ x4) (_k4 : x4 ≤ IntKind.max .i64) (_h5 : IntKind.min .i64 ≤ x5) (_k5 : x5 ≤ IntKind.max .i64) (_h6 : IntKind.min .i64 ≤ x6) (_k6 : x6 ≤ IntKind.max .i64) (_h7 : IntKind.min .i64 ≤ x7) (_k7 : x7 ≤ IntKind.max .i64) (_h8 : IntKind.min .i64 ≤ x8) (_k8 : x8 ≤ IntKind.max .i64) (_h9 : IntKind.min .i64 ≤ x9) (_k9 : x9 ≤ IntKind.max .i64) (_h10 : IntKind.min .i64 ≤ x10) (_k10 : x10 ≤ IntKind.max .i64) (_h11 : IntKind.min .i64 ≤ x11) (_k11 : x11 ≤ IntKind.max .i64) (_h12 : IntKind.min .i64 ≤ x12) (_k12 : x12 ≤ IntKind.max .i64) (_h13 : IntKind.min .i64 ≤ x13) (_k13 : x13 ≤ IntKind.max .i64) (_h14 : IntKind.min .i64 ≤ x14) (_k14 : x14 ≤ IntKind.max .i64) (_h15 : IntKind.min .i64 ≤ x15) (_k15 : x15 ≤ IntKind.max .i64) (_h16 : IntKind.min .i64 ≤ x16) (_k16 : x16 ≤ IntKind.max .i64) (_h17 : IntKind.min .i64 ≤ x17) (_k17 : x17 ≤ IntKind.max .i64) (_h18 : IntKind.min .i64 ≤ x18) (_k18 : x18 ≤ IntKind.max .i64) (_h19 : IntKind.min .i64 ≤ x19) (_k19 : x19 ≤ IntKind.max .i64) (_h20 : IntKind.min .i64 ≤ x20) (_k20 : x20 ≤ IntKind.max .i64) (_h21 : IntKind.min .i64 ≤ x21) (_k21 : x21 ≤ IntKind.max .i64) (_h22 : IntKind.min .i64 ≤ x22) (_k22 : x22 ≤ IntKind.max .i64) (_h23 : IntKind.min .i64 ≤ x23) (_k23 : x23 ≤ IntKind.max .i64) (_h24 : IntKind.min .i64 ≤ x24) (_k24 : x24 ≤ IntKind.max .i64) (_h25 : IntKind.min .i64 ≤ x25) (_k25 : x25 ≤ IntKind.max .i64) (_h26 : IntKind.min .i64 ≤ x26) (_k26 : x26 ≤ IntKind.max .i64) (_h27 : IntKind.min .i64 ≤ x27) (_k27 : x27 ≤ IntKind.max .i64) (_h28 : IntKind.min .i64 ≤ x28) (_k28 : x28 ≤ IntKind.max .i64) (_h29 : IntKind.min .i64 ≤ x29) (_k29 : x29 ≤ IntKind.max .i64) (_h30 : IntKind.min .i64 ≤ x30) (_k30 : x30 ≤ IntKind.max .i64) (_h31 : IntKind.min .i64 ≤ x31) (_k31 : x31 ≤ IntKind.max .i64) (_h32 : IntKind.min .i64 ≤ x32) (_k32 : x32 ≤ IntKind.max .i64) (_h33 : IntKind.min .i64 ≤ x33) (_k33 : x33 ≤ IntKind.max .i64) (_h34 : IntKind.min .i64 ≤ x34) (_k34 : x34 ≤ IntKind.max .i64) (_h35 : IntKind.min .i64 ≤ x35) (_k35 : x35 ≤ IntKind.max .i64) (_h36 : IntKind.min .i64 ≤ x36) (_k36 : x36 ≤ IntKind.max .i64) (_h37 : IntKind.min .i64 ≤ x37) (_k37 : x37 ≤ IntKind.max .i64) (_h38 : IntKind.min .i64 ≤ x38) (_k38 : x38 ≤ IntKind.max .i64) (_h39 : IntKind.min .i64 ≤ x39) (_k39 : x39 ≤ IntKind.max .i64) (_h40 : IntKind.min .i64 ≤ x40) (_k40 : x40 ≤ IntKind.max .i64) (_h41 : IntKind.min .i64 ≤ x41) (_k41 : x41 ≤ IntKind.max .i64) (_h42 : IntKind.min .i64 ≤ x42) (_k42 : x42 ≤ IntKind.max .i64) (_h43 : IntKind.min .i64 ≤ x43) (_k43 : x43 ≤ IntKind.max .i64) (_h44 : IntKind.min .i64 ≤ x44) (_k44 : x44 ≤ IntKind.max .i64) (_h45 : IntKind.min .i64 ≤ x45) (_k45 : x45 ≤ IntKind.max .i64) (_h46 : IntKind.min .i64 ≤ x46) (_k46 : x46 ≤ IntKind.max .i64) (_h47 : IntKind.min .i64 ≤ x47) (_k47 : x47 ≤ IntKind.max .i64) (_h48 : IntKind.min .i64 ≤ x48) (_k48 : x48 ≤ IntKind.max .i64) (_h49 : IntKind.min .i64 ≤ x49) (_k49 : x49 ≤ IntKind.max .i64) (_h50 : IntKind.min .i64 ≤ x50) (_k50 : x50 ≤ IntKind.max .i64) (_h51 : IntKind.min .i64 ≤ x51) (_k51 : x51 ≤ IntKind.max .i64) (_h52 : IntKind.min .i64 ≤ x52) (_k52 : x52 ≤ IntKind.max .i64) (_h53 : IntKind.min .i64 ≤ x53) (_k53 : x53 ≤ IntKind.max .i64) (_h54 : IntKind.min .i64 ≤ x54) (_k54 : x54 ≤ IntKind.max .i64) (_h55 : IntKind.min .i64 ≤ x55) (_k55 : x55 ≤ IntKind.max .i64) (_h56 : IntKind.min .i64 ≤ x56) (_k56 : x56 ≤ IntKind.max .i64) (_h57 : IntKind.min .i64 ≤ x57) (_k57 : x57 ≤ IntKind.max .i64) (_h58 : IntKind.min .i64 ≤ x58) (_k58 : x58 ≤ IntKind.max .i64) (_h59 : IntKind.min .i64 ≤ x59) (_k59 : x59 ≤ IntKind.max .i64) (_h60 : IntKind.min .i64 ≤ x60) (_k60 : x60 ≤ IntKind.max .i64) (_h61 : IntKind.min .i64 ≤ x61) (_k61 : x61 ≤ IntKind.max .i64) (_h62 : IntKind.min .i64 ≤ x62) (_k62 : x62 ≤ IntKind.max .i64) (_h63 : IntKind.min .i64 ≤ x63) (_k63 : x63 ≤ IntKind.max .i64) (_h64 : IntKind.min .i64 ≤ x64) (_k64 : x64 ≤ IntKind.max .i64) (_h65 : IntKind.min .i64 ≤ x65) (_k65 : x65 ≤ IntKind.max .i64) (_h66 : IntKind.min .i64 ≤ x66) (_k66 : x66 ≤ IntKind.max .i64) (_h67 : IntKind.min .i64 ≤ x67) (_k67 : x67 ≤ IntKind.max .i64) (_h68 : IntKind.min .i64 ≤ x68) (_k68 : x68 ≤ IntKind.max .i64) (_h69 : IntKind.min .i64 ≤ x69) (_k69 : x69 ≤ IntKind.max .i64) (_h70 : IntKind.min .i64 ≤ x70) (_k70 : x70 ≤ IntKind.max .i64) (_h71 : IntKind.min .i64 ≤ x71) (_k71 : x71 ≤ IntKind.max .i64) (_h72 : IntKind.min .i64 ≤ x72) (_k72 : x72 ≤ IntKind.max .i64) (_h73 : IntKind.min .i64 ≤ x73) (_k73 : x73 ≤ IntKind.max .i64) (_h74 : IntKind.min .i64 ≤ x74) (_k74 : x74 ≤ IntKind.max .i64) (_h75 : IntKind.min .i64 ≤ x75) (_k75 : x75 ≤ IntKind.max .i64) (_h76 : IntKind.min .i64 ≤ x76) (_k76 : x76 ≤ IntKind.max .i64) (_h77 : IntKind.min .i64 ≤ x77) (_k77 : x77 ≤ IntKind.max .i64) (_h78 : IntKind.min .i64 ≤ x78) (_k78 : x78 ≤ IntKind.max .i64) (_h79 : IntKind.min .i64 ≤ x79) (_k79 : x79 ≤ IntKind.max .i64) (_h80 : IntKind.min .i64 ≤ x80) (_k80 : x80 ≤ IntKind.max .i64) (_h81 : IntKind.min .i64 ≤ x81) (_k81 : x81 ≤ IntKind.max .i64) (_h82 : IntKind.min .i64 ≤ x82) (_k82 : x82 ≤ IntKind.max .i64) (_h83 : IntKind.min .i64 ≤ x83) (_k83 : x83 ≤ IntKind.max .i64) (_h84 : IntKind.min .i64 ≤ x84) (_k84 : x84 ≤ IntKind.max .i64) (_h85 : IntKind.min .i64 ≤ x85) (_k85 : x85 ≤ IntKind.max .i64) (_h86 : IntKind.min .i64 ≤ x86) (_k86 : x86 ≤ IntKind.max .i64) (_h87 : IntKind.min .i64 ≤ x87) (_k87 : x87 ≤ IntKind.max .i64) (_h88 : IntKind.min .i64 ≤ x88) (_k88 : x88 ≤ IntKind.max .i64) (_h89 : IntKind.min .i64 ≤ x89) (_k89 : x89 ≤ IntKind.max .i64) (_h90 : IntKind.min .i64 ≤ x90) (_k90 : x90 ≤ IntKind.max .i64) (_h91 : IntKind.min .i64 ≤ x91) (_k91 : x91 ≤ IntKind.max .i64) (_h92 : IntKind.min .i64 ≤ x92) (_k92 : x92 ≤ IntKind.max .i64) (_h93 : IntKind.min .i64 ≤ x93) (_k93 : x93 ≤ IntKind.max .i64) (_h94 : IntKind.min .i64 ≤ x94) (_k94 : x94 ≤ IntKind.max .i64) (_h95 : IntKind.min .i64 ≤ x95) (_k95 : x95 ≤ IntKind.max .i64) (_h96 : IntKind.min .i64 ≤ x96) (_k96 : x96 ≤ IntKind.max .i64) (_h97 : IntKind.min .i64 ≤ x97) (_k97 : x97 ≤ IntKind.max .i64) (_h98 : IntKind.min .i64 ≤ x98) (_k98 : x98 ≤ IntKind.max .i64) (_h99 : IntKind.min .i64 ≤ x99) (_k99 : x99 ≤ IntKind.max .i64) (_h100 : IntKind.min .i64 ≤ x100) (_k100 : x100 ≤ IntKind.max .i64) (_h101 : IntKind.min .i64 ≤ x101) (_k101 : x101 ≤ IntKind.max .i64) (_h102 : IntKind.min .i64 ≤ x102) (_k102 : x102 ≤ IntKind.max .i64) (_h103 : IntKind.min .i64 ≤ x103) (_k103 : x103 ≤ IntKind.max .i64) (_h104 : IntKind.min .i64 ≤ x104) (_k104 : x104 ≤ IntKind.max .i64) (_h105 : IntKind.min .i64 ≤ x105) (_k105 : x105 ≤ IntKind.max .i64) (_h106 : IntKind.min .i64 ≤ x106) (_k106 : x106 ≤ IntKind.max .i64) (_h107 : IntKind.min .i64 ≤ x107) (_k107 : x107 ≤ IntKind.max .i64) (_h108 : IntKind.min .i64 ≤ x108) (_k108 : x108 ≤ IntKind.max .i64) (_h109 : IntKind.min .i64 ≤ x109) (_k109 : x109 ≤ IntKind.max .i64) (_h110 : IntKind.min .i64 ≤ x110) (_k110 : x110 ≤ IntKind.max .i64) (_h111 : IntKind.min .i64 ≤ x111) (_k111 : x111 ≤ IntKind.max .i64) (_h112 : IntKind.min .i64 ≤ x112) (_k112 : x112 ≤ IntKind.max .i64) (_h113 : IntKind.min .i64 ≤ x113) (_k113 : x113 ≤ IntKind.max .i64) (_h114 : IntKind.min .i64 ≤ x114) (_k114 : x114 ≤ IntKind.max .i64) (_h115 : IntKind.min .i64 ≤ x115) (_k115 : x115 ≤ IntKind.max .i64) (_h116 : IntKind.min .i64 ≤ x116) (_k116 : x116 ≤ IntKind.max .i64) (_h117 : IntKind.min .i64 ≤ x117) (_k117 : x117 ≤ IntKind.max .i64) (_h118 : IntKind.min .i64 ≤ x118) (_k118 : x118 ≤ IntKind.max .i64) (_h119 : IntKind.min .i64 ≤ x119) (_k119 : x119 ≤ IntKind.max .i64) (_h120 : IntKind.min .i64 ≤ x120) (_k120 : x120 ≤ IntKind.max .i64) (_h121 : IntKind.min .i64 ≤ x121) (_k121 : x121 ≤ IntKind.max .i64) (_h122 : IntKind.min .i64 ≤ x122) (_k122 : x122 ≤ IntKind.max .i64) (_h123 : IntKind.min .i64 ≤ x123) (_k123 : x123 ≤ IntKind.max .i64) (_h124 : IntKind.min .i64 ≤ x124) (_k124 : x124 ≤ IntKind.max .i64) (_h125 : IntKind.min .i64 ≤ x125) (_k125 : x125 ≤ IntKind.max .i64) (_h126 : IntKind.min .i64 ≤ x126) (_k126 : x126 ≤ IntKind.max .i64) (_h127 : IntKind.min .i64 ≤ x127) (_k127 : x127 ≤ IntKind.max .i64) (_h128 : IntKind.min .i64 ≤ x128) (_k128 : x128 ≤ IntKind.max .i64) (_h129 : IntKind.min .i64 ≤ x129) (_k129 : x129 ≤ IntKind.max .i64) (_h130 : IntKind.min .i64 ≤ x130) (_k130 : x130 ≤ IntKind.max .i64) (_h131 : IntKind.min .i64 ≤ x131) (_k131 : x131 ≤ IntKind.max .i64) (_h132 : IntKind.min .i64 ≤ x132) (_k132 : x132 ≤ IntKind.max .i64) (_h133 : IntKind.min .i64 ≤ x133) (_k133 : x133 ≤ IntKind.max .i64) (_h134 : IntKind.min .i64 ≤ x134) (_k134 : x134 ≤ IntKind.max .i64) (_h135 : IntKind.min .i64 ≤ x135) (_k135 : x135 ≤ IntKind.max .i64) (_h136 : IntKind.min .i64 ≤ x136) (_k136 : x136 ≤ IntKind.max .i64) (_h137 : IntKind.min .i64 ≤ x137) (_k137 : x137 ≤ IntKind.max .i64) (_h138 : IntKind.min .i64 ≤ x138) (_k138 : x138 ≤ IntKind.max .i64) (_h139 : IntKind.min .i64 ≤ x139) (_k139 : x139 ≤ IntKind.max .i64) (_h140 : IntKind.min .i64 ≤ x140) (_k140 : x140 ≤ IntKind.max .i64) (_h141 : IntKind.min .i64 ≤ x141) (_k141 : x141 ≤ IntKind.max .i64) (_h142 : IntKind.min .i64 ≤ x142) (_k142 : x142 ≤ IntKind.max .i64) (_h143 : IntKind.min .i64 ≤ x143) (_k143 : x143 ≤ IntKind.max .i64) (_h144 : IntKind.min .i64 ≤ x144) (_k144 : x144 ≤ IntKind.max .i64) (_h145 : IntKind.min .i64 ≤ x145) (_k145 : x145 ≤ IntKind.max .i64) (_h146 : IntKind.min .i64 ≤ x146) (_k146 : x146 ≤ IntKind.max .i64) (_h147 : IntKind.min .i64 ≤ x147) (_k147 : x147 ≤ IntKind.max .i64) (_h148 : IntKind.min .i64 ≤ x148) (_k148 : x148 ≤ IntKind.max .i64) (_h149 : IntKind.min .i64 ≤ x149) (_k149 : x149 ≤ IntKind.max .i64) (_h150 : IntKind.min .i64 ≤ x150) (_k150 : x150 ≤ IntKind.max .i64) :
    (T_RadixOne x0 x1 x2 x3 x4 x5 x6 x7 x8 x9 x10 x11 x12 x13 x14 x15 x16 x17 x18 x19 x20 x21 x22 x23 x24 x25 x26 x27 x28 x29 x30 x31 x32 x33 x34 x35 x36 x37 x38 x39 x40 x41 x42 x43 x44 x45 x46 x47 x48 x49 x50 x51 x52 x53 x54 x55 x56 x57 x58 x59 x60 x61 x62 x63 x64 x65 x66 x67 x68 x69 x70 x71 x72 x73 x74 x75 x76 x77 x78 x79 x80 x81 x82 x83 x84 x85 x86 x87 x88 x89 x90 x91 x92 x93 x94 x95 x96 x97 x98 x99 x100 x101 x102 x103 x104 x105 x106 x107 x108 x109 x110 x111 x112 x113 x114 x115 x116 x117 x118 x119 x120 x121 x122 x123 x124 x125 x126 x127 x128 x129 x130 x131 x132 x133 x134 x135 x136 x137 x138 x139 x140 x141 x142 x143 x144 x145 x146 x147 x148 x149 x150).sat fun r => r = [.b true] := by
  rw [x_RadixOne]
  obtain ⟨t0, t1⟩ := tmod49 x147
  refine brT rfl (brT rfl (brD (fun hx => ?_) (fun hx => ?_)))
  · rw [wrap_i64 (x := 0 - Int.tmod x147 49) (by omega) (by omega)]
    exact oneT_sat rfl rfl rfl _ _ _ (by omega) (by omega)
  · exact oneT_sat rfl rfl rfl _ _ _ (by omega) (by omega)
end Go.Proofs.Ytobikddlkoibjaa.G
