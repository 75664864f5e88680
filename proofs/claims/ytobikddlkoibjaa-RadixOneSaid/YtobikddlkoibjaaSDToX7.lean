/-
  Which leaves differ: the code's list, in few words; what the reference's loop comes to.
-/
import Derived.Test.YtobikddlkoibjaaX5
import Derived.Test.YtobikddlkoibjaaAn5ToAnR
import Derived.KernelRfl
section
namespace Go.Proofs.Ytobikddlkoibjaa.G
open Go Go.AM Go.Proofs

def gcol (G : Nat → Int) : Nat → Nat → Int := fun k c => match c with
  | 0 => G k
  | _ + 1 => 0

section
variable (K V L K' V' L' : List Int)
def eqE (i : Nat) : Bool := K.getD i 0 == K'.getD i 0 && (V.getD i 0 == V'.getD i 0 && (L.getD i 0 == L'.getD i 0 && true))
def lfEq (k : Nat) : Bool := (eqE K V L K' V' L' (7 * k + 0) && (eqE K V L K' V' L' (7 * k + 1) && (eqE K V L K' V' L' (7 * k + 2) && (eqE K V L K' V' L' (7 * k + 3) && (eqE K V L K' V' L' (7 * k + 4) && (eqE K V L K' V' L' (7 * k + 5) && (eqE K V L K' V' L' (7 * k + 6) && true)))))))
def dfs : Nat → Nat → List Int
  | 0, _ => []
  | m + 1, k => bif !lfEq K V L K' V' L' k then (k : Int) :: dfs m (k + 1) else dfs m (k + 1)
end
def listR (L : List Int) : List At := [.r L.length (gcol fun k => L.getD k 0)]

def app : Option (Nat × (Nat → Nat → Int)) → Nat → Nat × (Nat → Nat → Int)
  | none, k => (1, rowsF [[(k : Int)]])
  | some (n, g), k => (n + 1, appG g n (rowsF [[(k : Int)]]))
def accR : Option (Nat × (Nat → Nat → Int)) → Nat × (Nat → Nat → Int)
  | none => (0, fun _ _ => 0)
  | some p => p
def trB (s : Nat) (d : Nat → Bool) : Nat → Nat → Option (Nat × (Nat → Nat → Int)) → Tr (List At)
  | 0, _, acc => .ok [.r (accR acc).1 (accR acc).2]
  | m + 1, k, acc => .br s (d k) (trB s d m (k + 1) (some (app acc k))) (trB s d m (k + 1) acc)

theorem gcol_app {L : List Int} {n : Nat} {g : Nat → Nat → Int} {x : Int} (hn : n = L.length) (hg : ∀ i, i < n → ∀ c, g i c = gcol (fun k => L.getD k 0) i c) : ∀ i, i < n + 1 → ∀ c, appG g n (rowsF [[x]]) i c = gcol (fun k => (L ++ [x]).getD k 0) i c := by
  intro i hi c
  unfold appG
  by_cases h : i < n
  · rw [if_pos h, hg i h c]
    cases c with
    | zero =>
      show L.getD i 0 = (L ++ [x]).getD i 0
      rw [List.getD_eq_getElem?_getD, List.getD_eq_getElem?_getD, List.getElem?_append_left (by omega)]
    | succ c => rfl
  · obtain rfl : i = n := by omega
    rw [if_neg h, Nat.sub_self]
    cases c with
    | zero =>
      show x = (L ++ [x]).getD i 0
      rw [List.getD_eq_getElem?_getD, hn, List.getElem?_append_right (Nat.le_refl _)]
      simp
    | succ c => rfl

theorem app_ok {L : List Int} {acc : Option (Nat × (Nat → Nat → Int))} {k : Nat} (hn : (accR acc).1 = L.length) (hg : ∀ i, i < (accR acc).1 → ∀ c, (accR acc).2 i c = gcol (fun k => L.getD k 0) i c) :
    (app acc k).1 = (L ++ [(k : Int)]).length ∧ ∀ i, i < (app acc k).1 → ∀ c, (app acc k).2 i c = gcol (fun j => (L ++ [(k : Int)]).getD j 0) i c := by
  cases acc with
  | none =>
    have : L = [] := List.length_eq_zero_iff.1 hn.symm
    subst this
    refine ⟨rfl, fun i hi c => ?_⟩
    obtain rfl : i = 0 := by have : i < 1 := hi; omega
    cases c <;> rfl
  | some p =>
    obtain ⟨n, g⟩ := p
    exact ⟨by simp only [app, List.length_append]; exact congrArg (· + 1) hn, gcol_app hn hg⟩

theorem trB_sat (s : Nat) {K V L K' V' L' : List Int} {d : Nat → Bool} (hd : ∀ k, d k = !lfEq K V L K' V' L' k) : ∀ (m k : Nat) (acc : Option (Nat × (Nat → Nat → Int))) (A : List Int), (accR acc).1 = A.length → (∀ i, i < (accR acc).1 → ∀ c, (accR acc).2 i c = gcol (fun k => A.getD k 0) i c) →
    (trB s d m k acc).sat fun r => AtsEq r (listR (A ++ dfs K V L K' V' L' m k))
  | 0, k, acc, A, hn, hg => by
    rw [dfs, List.append_nil]
    exact Tr.sat_ok.2 (atsEq_cons (atEq_r hn hg) atsEq_nil)
  | m + 1, k, acc, A, hn, hg => by
    rw [dfs]
    refine brC (fun h => ?_) (fun h => ?_)
    · rw [← hd, h, cond_true]
      obtain ⟨a1, a2⟩ := app_ok (k := k) hn hg
      have := trB_sat s hd m (k + 1) (some (app acc k)) (A ++ [(k : Int)]) a1 a2
      rwa [List.append_assoc] at this
    · rw [← hd, h, cond_false]
      exact trB_sat s hd m (k + 1) acc A hn hg

def F2_Diff (l : List At) : Tr (List At) := .ok (listR (dfs (colK (aI l 0) (aI l 3) (aI l 6) (aI l 9) (aI l 12) (aI l 15) (aI l 18) (aI l 21) (aI l 24) (aI l 27) (aI l 30) (aI l 33) (aI l 36) (aI l 39) (aI l 42) (aI l 45) (aI l 48) (aI l 51) (aI l 54) (aI l 57) (aI l 60) (aI l 63) (aI l 66) (aI l 69) (aI l 72) (aI l 75) (aI l 78) (aI l 81) (aI l 84) (aI l 87) (aI l 90) (aI l 93) (aI l 96) (aI l 99) (aI l 102) (aI l 105) (aI l 108) (aI l 111) (aI l 114) (aI l 117) (aI l 120) (aI l 123) (aI l 126) (aI l 129) (aI l 132) (aI l 135) (aI l 138) (aI l 141) (aI l 144)) (colV (aI l 1) (aI l 4) (aI l 7) (aI l 10) (aI l 13) (aI l 16) (aI l 19) (aI l 22) (aI l 25) (aI l 28) (aI l 31) (aI l 34) (aI l 37) (aI l 40) (aI l 43) (aI l 46) (aI l 49) (aI l 52) (aI l 55) (aI l 58) (aI l 61) (aI l 64) (aI l 67) (aI l 70) (aI l 73) (aI l 76) (aI l 79) (aI l 82) (aI l 85) (aI l 88) (aI l 91) (aI l 94) (aI l 97) (aI l 100) (aI l 103) (aI l 106) (aI l 109) (aI l 112) (aI l 115) (aI l 118) (aI l 121) (aI l 124) (aI l 127) (aI l 130) (aI l 133) (aI l 136) (aI l 139) (aI l 142) (aI l 145)) (colL (aI l 2) (aI l 5) (aI l 8) (aI l 11) (aI l 14) (aI l 17) (aI l 20) (aI l 23) (aI l 26) (aI l 29) (aI l 32) (aI l 35) (aI l 38) (aI l 41) (aI l 44) (aI l 47) (aI l 50) (aI l 53) (aI l 56) (aI l 59) (aI l 62) (aI l 65) (aI l 68) (aI l 71) (aI l 74) (aI l 77) (aI l 80) (aI l 83) (aI l 86) (aI l 89) (aI l 92) (aI l 95) (aI l 98) (aI l 101) (aI l 104) (aI l 107) (aI l 110) (aI l 113) (aI l 116) (aI l 119) (aI l 122) (aI l 125) (aI l 128) (aI l 131) (aI l 134) (aI l 137) (aI l 140) (aI l 143) (aI l 146)) (colK (aI l 147) (aI l 150) (aI l 153) (aI l 156) (aI l 159) (aI l 162) (aI l 165) (aI l 168) (aI l 171) (aI l 174) (aI l 177) (aI l 180) (aI l 183) (aI l 186) (aI l 189) (aI l 192) (aI l 195) (aI l 198) (aI l 201) (aI l 204) (aI l 207) (aI l 210) (aI l 213) (aI l 216) (aI l 219) (aI l 222) (aI l 225) (aI l 228) (aI l 231) (aI l 234) (aI l 237) (aI l 240) (aI l 243) (aI l 246) (aI l 249) (aI l 252) (aI l 255) (aI l 258) (aI l 261) (aI l 264) (aI l 267) (aI l 270) (aI l 273) (aI l 276) (aI l 279) (aI l 282) (aI l 285) (aI l 288) (aI l 291)) (colV (aI l 148) (aI l 151) (aI l 154) (aI l 157) (aI l 160) (aI l 163) (aI l 166) (aI l 169) (aI l 172) (aI l 175) (aI l 178) (aI l 181) (aI l 184) (aI l 187) (aI l 190) (aI l 193) (aI l 196) (aI l 199) (aI l 202) (aI l 205) (aI l 208) (aI l 211) (aI l 214) (aI l 217) (aI l 220) (aI l 223) (aI l 226) (aI l 229) (aI l 232) (aI l 235) (aI l 238) (aI l 241) (aI l 244) (aI l 247) (aI l 250) (aI l 253) (aI l 256) (aI l 259) (aI l 262) (aI l 265) (aI l 268) (aI l 271) (aI l 274) (aI l 277) (aI l 280) (aI l 283) (aI l 286) (aI l 289) (aI l 292)) (colL (aI l 149) (aI l 152) (aI l 155) (aI l 158) (aI l 161) (aI l 164) (aI l 167) (aI l 170) (aI l 173) (aI l 176) (aI l 179) (aI l 182) (aI l 185) (aI l 188) (aI l 191) (aI l 194) (aI l 197) (aI l 200) (aI l 203) (aI l 206) (aI l 209) (aI l 212) (aI l 215) (aI l 218) (aI l 221) (aI l 224) (aI l 227) (aI l 230) (aI l 233) (aI l 236) (aI l 239) (aI l 242) (aI l 245) (aI l 248) (aI l 251) (aI l 254) (aI l 257) (aI l 260) (aI l 263) (aI l 266) (aI l 269) (aI l 272) (aI l 275) (aI l 278) (aI l 281) (aI l 284) (aI l 287) (aI l 290) (aI l 293)) 7 0))
theorem x_gDiff (l : List At) : TL_gDiff l = trB 26 (fun k => !lfEq (colK (aI l 0) (aI l 3) (aI l 6) (aI l 9) (aI l 12) (aI l 15) (aI l 18) (aI l 21) (aI l 24) (aI l 27) (aI l 30) (aI l 33) (aI l 36) (aI l 39) (aI l 42) (aI l 45) (aI l 48) (aI l 51) (aI l 54) (aI l 57) (aI l 60) (aI l 63) (aI l 66) (aI l 69) (aI l 72) (aI l 75) (aI l 78) (aI l 81) (aI l 84) (aI l 87) (aI l 90) (aI l 93) (aI l 96) (aI l 99) (aI l 102) (aI l 105) (aI l 108) (aI l 111) (aI l 114) (aI l 117) (aI l 120) (aI l 123) (aI l 126) (aI l 129) (aI l 132) (aI l 135) (aI l 138) (aI l 141) (aI l 144)) (colV (aI l 1) (aI l 4) (aI l 7) (aI l 10) (aI l 13) (aI l 16) (aI l 19) (aI l 22) (aI l 25) (aI l 28) (aI l 31) (aI l 34) (aI l 37) (aI l 40) (aI l 43) (aI l 46) (aI l 49) (aI l 52) (aI l 55) (aI l 58) (aI l 61) (aI l 64) (aI l 67) (aI l 70) (aI l 73) (aI l 76) (aI l 79) (aI l 82) (aI l 85) (aI l 88) (aI l 91) (aI l 94) (aI l 97) (aI l 100) (aI l 103) (aI l 106) (aI l 109) (aI l 112) (aI l 115) (aI l 118) (aI l 121) (aI l 124) (aI l 127) (aI l 130) (aI l 133) (aI l 136) (aI l 139) (aI l 142) (aI l 145)) (colL (aI l 2) (aI l 5) (aI l 8) (aI l 11) (aI l 14) (aI l 17) (aI l 20) (aI l 23) (aI l 26) (aI l 29) (aI l 32) (aI l 35) (aI l 38) (aI l 41) (aI l 44) (aI l 47) (aI l 50) (aI l 53) (aI l 56) (aI l 59) (aI l 62) (aI l 65) (aI l 68) (aI l 71) (aI l 74) (aI l 77) (aI l 80) (aI l 83) (aI l 86) (aI l 89) (aI l 92) (aI l 95) (aI l 98) (aI l 101) (aI l 104) (aI l 107) (aI l 110) (aI l 113) (aI l 116) (aI l 119) (aI l 122) (aI l 125) (aI l 128) (aI l 131) (aI l 134) (aI l 137) (aI l 140) (aI l 143) (aI l 146)) (colK (aI l 147) (aI l 150) (aI l 153) (aI l 156) (aI l 159) (aI l 162) (aI l 165) (aI l 168) (aI l 171) (aI l 174) (aI l 177) (aI l 180) (aI l 183) (aI l 186) (aI l 189) (aI l 192) (aI l 195) (aI l 198) (aI l 201) (aI l 204) (aI l 207) (aI l 210) (aI l 213) (aI l 216) (aI l 219) (aI l 222) (aI l 225) (aI l 228) (aI l 231) (aI l 234) (aI l 237) (aI l 240) (aI l 243) (aI l 246) (aI l 249) (aI l 252) (aI l 255) (aI l 258) (aI l 261) (aI l 264) (aI l 267) (aI l 270) (aI l 273) (aI l 276) (aI l 279) (aI l 282) (aI l 285) (aI l 288) (aI l 291)) (colV (aI l 148) (aI l 151) (aI l 154) (aI l 157) (aI l 160) (aI l 163) (aI l 166) (aI l 169) (aI l 172) (aI l 175) (aI l 178) (aI l 181) (aI l 184) (aI l 187) (aI l 190) (aI l 193) (aI l 196) (aI l 199) (aI l 202) (aI l 205) (aI l 208) (aI l 211) (aI l 214) (aI l 217) (aI l 220) (aI l 223) (aI l 226) (aI l 229) (aI l 232) (aI l 235) (aI l 238) (aI l 241) (aI l 244) (aI l 247) (aI l 250) (aI l 253) (aI l 256) (aI l 259) (aI l 262) (aI l 265) (aI l 268) (aI l 271) (aI l 274) (aI l 277) (aI l 280) (aI l 283) (aI l 286) (aI l 289) (aI l 292)) (colL (aI l 149) (aI l 152) (aI l 155) (aI l 158) (aI l 161) (aI l 164) (aI l 167) (aI l 170) (aI l 173) (aI l 176) (aI l 179) (aI l 182) (aI l 185) (aI l 188) (aI l 191) (aI l 194) (aI l 197) (aI l 200) (aI l 203) (aI l 206) (aI l 209) (aI l 212) (aI l 215) (aI l 218) (aI l 221) (aI l 224) (aI l 227) (aI l 230) (aI l 233) (aI l 236) (aI l 239) (aI l 242) (aI l 245) (aI l 248) (aI l 251) (aI l 254) (aI l 257) (aI l 260) (aI l 263) (aI l 266) (aI l 269) (aI l 272) (aI l 275) (aI l 278) (aI l 281) (aI l 284) (aI l 287) (aI l 290) (aI l 293)) k) 7 0 none := by kernel_rfl
theorem h_gDiff : ∀ l r, (F2_Diff l).val = some r → ∃ r', ((call Try.prog Γ_SZ y_gDiff noLoops 100 Try.f19 (mkV ish_gDiff l) (mkH ish_gDiff l)).bind (leafO 0 osh_gDiff)).val = some r' ∧ AtsEq r' r := by
  intro l r h
  have := val_ok h
  subst this
  obtain ⟨r', h1, h2⟩ := trB_sat 26 (fun k => rfl) 7 0 none [] rfl (fun i hi => by cases hi)
  exact ⟨r', by rw [e_gDiff, x_gDiff]; exact h1, h2⟩
theorem s2_gDiff : SpecF Try.prog 19 (.eff (locF ish_gDiff osh_gDiff F2_Diff)) :=
  spec_loc (sy := y_gDiff) (fuel := 100) (Lp := noLoops) o_SZ mixed ⟨Try.func19, by kernel_rfl, by kernel_rfl⟩ ish_gDiff osh_gDiff (noLoops_ok _) h_gDiff

theorem dfs_len (K V L K' V' L' : List Int) : ∀ m k, (dfs K V L K' V' L' m k).length ≤ m
  | 0, _ => by simp [dfs]
  | m + 1, k => by
    rw [dfs]
    have := dfs_len K V L K' V' L' m (k + 1)
    cases lfEq K V L K' V' L' k <;> simp <;> omega

noncomputable def pdec (p : Prop) : Bool := @decide p (Classical.propDecidable p)
theorem pdec_yes {p : Prop} (h : p) : pdec p = true := @decide_eq_true p (Classical.propDecidable p) h
theorem of_pdec {p : Prop} (h : pdec p = true) : p := @of_decide_eq_true p (Classical.propDecidable p) h

def preD (x0 : Int) (n : Nat) : Bool := decide (0 ≤ x0 ∧ x0 ≤ 7 ∧ n ≤ x0.toNat)
/-- What stands there, and others behind it. -/
def moreG (n : Nat) (g : Nat → Nat → Int) (D : List Int) : Nat → Nat → Int := fun i c => if i < n then g i c else gcol (fun k => D.getD k 0) (i - n) c
def O_rDiff_3 (x0 x1 x2 x3 x4 x5 x6 x7 x8 x9 x10 x11 x12 x13 x14 x15 x16 x17 x18 x19 x20 x21 x22 x23 x24 x25 x26 x27 x28 x29 x30 x31 x32 x33 x34 x35 x36 x37 x38 x39 x40 x41 x42 x43 x44 x45 x46 x47 x48 x49 x50 x51 x52 x53 x54 x55 x56 x57 x58 x59 x60 x61 x62 x63 x64 x65 x66 x67 x68 x69 x70 x71 x72 x73 x74 x75 x76 x77 x78 x79 x80 x81 x82 x83 x84 x85 x86 x87 x88 x89 x90 x91 x92 x93 x94 x95 x96 x97 x98 x99 x100 x101 x102 x103 x104 x105 x106 x107 x108 x109 x110 x111 x112 x113 x114 x115 x116 x117 x118 x119 x120 x121 x122 x123 x124 x125 x126 x127 x128 x129 x130 x131 x132 x133 x134 x135 x136 x137 x138 x139 x140 x141 x142 x143 x144 x145 x146 x147 x148 x149 x150 x151 x152 x153 x154 x155 x156 x157 x158 x159 x160 x161 x162 x163 x164 x165 x166 x167 x168 x169 x170 x171 x172 x173 x174 x175 x176 x177 x178 x179 x180 x181 x182 x183 x184 x185 x186 x187 x188 x189 x190 x191 x192 x193 x194 x195 x196 x197 x198 x199 x200 x201 x202 x203 x204 x205 x206 x207 x208 x209 x210 x211 x212 x213 x214 x215 x216 x217 x218 x219 x220 x221 x222 x223 x224 x225 x226 x227 x228 x229 x230 x231 x232 x233 x234 x235 x236 x237 x238 x239 x240 x241 x242 x243 x244 x245 x246 x247 x248 x249 x250 x251 x252 x253 x254 x255 x256 x257 x258 x259 x260 x261 x262 x263 x264 x265 x266 x267 x268 x269 x270 x271 x272 x273 x274 x275 x276 x277 x278 x279 x280 x281 x282 x283 x284 x285 x286 x287 x288 x289 x290 x291 x292 x293 x294 : Int) (n295 : Nat) (g295 : Nat → Nat → Int) : Tr (Ex × List At) :=
  .br 0 (preD x0 n295) (.ok (.exit 0, [.r (n295 + (dfs (colK x1 x4 x7 x10 x13 x16 x19 x22 x25 x28 x31 x34 x37 x40 x43 x46 x49 x52 x55 x58 x61 x64 x67 x70 x73 x76 x79 x82 x85 x88 x91 x94 x97 x100 x103 x106 x109 x112 x115 x118 x121 x124 x127 x130 x133 x136 x139 x142 x145) (colV x2 x5 x8 x11 x14 x17 x20 x23 x26 x29 x32 x35 x38 x41 x44 x47 x50 x53 x56 x59 x62 x65 x68 x71 x74 x77 x80 x83 x86 x89 x92 x95 x98 x101 x104 x107 x110 x113 x116 x119 x122 x125 x128 x131 x134 x137 x140 x143 x146) (colL x3 x6 x9 x12 x15 x18 x21 x24 x27 x30 x33 x36 x39 x42 x45 x48 x51 x54 x57 x60 x63 x66 x69 x72 x75 x78 x81 x84 x87 x90 x93 x96 x99 x102 x105 x108 x111 x114 x117 x120 x123 x126 x129 x132 x135 x138 x141 x144 x147) (colK x148 x151 x154 x157 x160 x163 x166 x169 x172 x175 x178 x181 x184 x187 x190 x193 x196 x199 x202 x205 x208 x211 x214 x217 x220 x223 x226 x229 x232 x235 x238 x241 x244 x247 x250 x253 x256 x259 x262 x265 x268 x271 x274 x277 x280 x283 x286 x289 x292) (colV x149 x152 x155 x158 x161 x164 x167 x170 x173 x176 x179 x182 x185 x188 x191 x194 x197 x200 x203 x206 x209 x212 x215 x218 x221 x224 x227 x230 x233 x236 x239 x242 x245 x248 x251 x254 x257 x260 x263 x266 x269 x272 x275 x278 x281 x284 x287 x290 x293) (colL x150 x153 x156 x159 x162 x165 x168 x171 x174 x177 x180 x183 x186 x189 x192 x195 x198 x201 x204 x207 x210 x213 x216 x219 x222 x225 x228 x231 x234 x237 x240 x243 x246 x249 x252 x255 x258 x261 x264 x267 x270 x273 x276 x279 x282 x285 x288 x291 x294) (7 - x0).toNat x0.toNat).length) (moreG n295 g295 (dfs (colK x1 x4 x7 x10 x13 x16 x19 x22 x25 x28 x31 x34 x37 x40 x43 x46 x49 x52 x55 x58 x61 x64 x67 x70 x73 x76 x79 x82 x85 x88 x91 x94 x97 x100 x103 x106 x109 x112 x115 x118 x121 x124 x127 x130 x133 x136 x139 x142 x145) (colV x2 x5 x8 x11 x14 x17 x20 x23 x26 x29 x32 x35 x38 x41 x44 x47 x50 x53 x56 x59 x62 x65 x68 x71 x74 x77 x80 x83 x86 x89 x92 x95 x98 x101 x104 x107 x110 x113 x116 x119 x122 x125 x128 x131 x134 x137 x140 x143 x146) (colL x3 x6 x9 x12 x15 x18 x21 x24 x27 x30 x33 x36 x39 x42 x45 x48 x51 x54 x57 x60 x63 x66 x69 x72 x75 x78 x81 x84 x87 x90 x93 x96 x99 x102 x105 x108 x111 x114 x117 x120 x123 x126 x129 x132 x135 x138 x141 x144 x147) (colK x148 x151 x154 x157 x160 x163 x166 x169 x172 x175 x178 x181 x184 x187 x190 x193 x196 x199 x202 x205 x208 x211 x214 x217 x220 x223 x226 x229 x232 x235 x238 x241 x244 x247 x250 x253 x256 x259 x262 x265 x268 x271 x274 x277 x280 x283 x286 x289 x292) (colV x149 x152 x155 x158 x161 x164 x167 x170 x173 x176 x179 x182 x185 x188 x191 x194 x197 x200 x203 x206 x209 x212 x215 x218 x221 x224 x227 x230 x233 x236 x239 x242 x245 x248 x251 x254 x257 x260 x263 x266 x269 x272 x275 x278 x281 x284 x287 x290 x293) (colL x150 x153 x156 x159 x162 x165 x168 x171 x174 x177 x180 x183 x186 x189 x192 x195 x198 x201 x204 x207 x210 x213 x216 x219 x222 x225 x228 x231 x234 x237 x240 x243 x246 x249 x252 x255 x258 x261 x264 x267 x270 x273 x276 x279 x282 x285 x288 x291 x294) (7 - x0).toNat x0.toNat))])) .no
def OL_rDiff_3 (l : List At) : Tr (Ex × List At) := O_rDiff_3 (aI l 0) (aI l 1) (aI l 2) (aI l 3) (aI l 4) (aI l 5) (aI l 6) (aI l 7) (aI l 8) (aI l 9) (aI l 10) (aI l 11) (aI l 12) (aI l 13) (aI l 14) (aI l 15) (aI l 16) (aI l 17) (aI l 18) (aI l 19) (aI l 20) (aI l 21) (aI l 22) (aI l 23) (aI l 24) (aI l 25) (aI l 26) (aI l 27) (aI l 28) (aI l 29) (aI l 30) (aI l 31) (aI l 32) (aI l 33) (aI l 34) (aI l 35) (aI l 36) (aI l 37) (aI l 38) (aI l 39) (aI l 40) (aI l 41) (aI l 42) (aI l 43) (aI l 44) (aI l 45) (aI l 46) (aI l 47) (aI l 48) (aI l 49) (aI l 50) (aI l 51) (aI l 52) (aI l 53) (aI l 54) (aI l 55) (aI l 56) (aI l 57) (aI l 58) (aI l 59) (aI l 60) (aI l 61) (aI l 62) (aI l 63) (aI l 64) (aI l 65) (aI l 66) (aI l 67) (aI l 68) (aI l 69) (aI l 70) (aI l 71) (aI l 72) (aI l 73) (aI l 74) (aI l 75) (aI l 76) (aI l 77) (aI l 78) (aI l 79) (aI l 80) (aI l 81) (aI l 82) (aI l 83) (aI l 84) (aI l 85) (aI l 86) (aI l 87) (aI l 88) (aI l 89) (aI l 90) (aI l 91) (aI l 92) (aI l 93) (aI l 94) (aI l 95) (aI l 96) (aI l 97) (aI l 98) (aI l 99) (aI l 100) (aI l 101) (aI l 102) (aI l 103) (aI l 104) (aI l 105) (aI l 106) (aI l 107) (aI l 108) (aI l 109) (aI l 110) (aI l 111) (aI l 112) (aI l 113) (aI l 114) (aI l 115) (aI l 116) (aI l 117) (aI l 118) (aI l 119) (aI l 120) (aI l 121) (aI l 122) (aI l 123) (aI l 124) (aI l 125) (aI l 126) (aI l 127) (aI l 128) (aI l 129) (aI l 130) (aI l 131) (aI l 132) (aI l 133) (aI l 134) (aI l 135) (aI l 136) (aI l 137) (aI l 138) (aI l 139) (aI l 140) (aI l 141) (aI l 142) (aI l 143) (aI l 144) (aI l 145) (aI l 146) (aI l 147) (aI l 148) (aI l 149) (aI l 150) (aI l 151) (aI l 152) (aI l 153) (aI l 154) (aI l 155) (aI l 156) (aI l 157) (aI l 158) (aI l 159) (aI l 160) (aI l 161) (aI l 162) (aI l 163) (aI l 164) (aI l 165) (aI l 166) (aI l 167) (aI l 168) (aI l 169) (aI l 170) (aI l 171) (aI l 172) (aI l 173) (aI l 174) (aI l 175) (aI l 176) (aI l 177) (aI l 178) (aI l 179) (aI l 180) (aI l 181) (aI l 182) (aI l 183) (aI l 184) (aI l 185) (aI l 186) (aI l 187) (aI l 188) (aI l 189) (aI l 190) (aI l 191) (aI l 192) (aI l 193) (aI l 194) (aI l 195) (aI l 196) (aI l 197) (aI l 198) (aI l 199) (aI l 200) (aI l 201) (aI l 202) (aI l 203) (aI l 204) (aI l 205) (aI l 206) (aI l 207) (aI l 208) (aI l 209) (aI l 210) (aI l 211) (aI l 212) (aI l 213) (aI l 214) (aI l 215) (aI l 216) (aI l 217) (aI l 218) (aI l 219) (aI l 220) (aI l 221) (aI l 222) (aI l 223) (aI l 224) (aI l 225) (aI l 226) (aI l 227) (aI l 228) (aI l 229) (aI l 230) (aI l 231) (aI l 232) (aI l 233) (aI l 234) (aI l 235) (aI l 236) (aI l 237) (aI l 238) (aI l 239) (aI l 240) (aI l 241) (aI l 242) (aI l 243) (aI l 244) (aI l 245) (aI l 246) (aI l 247) (aI l 248) (aI l 249) (aI l 250) (aI l 251) (aI l 252) (aI l 253) (aI l 254) (aI l 255) (aI l 256) (aI l 257) (aI l 258) (aI l 259) (aI l 260) (aI l 261) (aI l 262) (aI l 263) (aI l 264) (aI l 265) (aI l 266) (aI l 267) (aI l 268) (aI l 269) (aI l 270) (aI l 271) (aI l 272) (aI l 273) (aI l 274) (aI l 275) (aI l 276) (aI l 277) (aI l 278) (aI l 279) (aI l 280) (aI l 281) (aI l 282) (aI l 283) (aI l 284) (aI l 285) (aI l 286) (aI l 287) (aI l 288) (aI l 289) (aI l 290) (aI l 291) (aI l 292) (aI l 293) (aI l 294) (aRn l 295) (aRg l 295)
def μ_rDiff_3 (l : List At) : Nat := (7 - aI l 0).toNat

section
variable (x0 : Int) (K V L K' V' L' : List Int)
def jj (i : Nat) : Int := IntKind.i64.wrap (IntKind.i64.wrap (7 * x0) + (i : Int))
def site : Nat → Nat
  | 0 => 33
  | _ + 1 => 18
def stepsD (A N : Tr (Ex × List At)) : Nat → Nat → Tr (Ex × List At)
  | 0, _ => N
  | m + 1, i => .br 200023 (within (jj x0 i) 49) (.br 200029 (within (jj x0 i) 49) (.br (site m) (!(eqE K V L K' V' L' (jj x0 i).toNat)) A (stepsD A N m (i + 1))) .no) .no
end

theorem lf_all {K V L K' V' L' : List Int} {k : Nat} (h : ∀ j, j < 7 → eqE K V L K' V' L' (7 * k + j) = true) : lfEq K V L K' V' L' k = true := by
  unfold lfEq
  rw [h 0 (by omega), h 1 (by omega), h 2 (by omega), h 3 (by omega), h 4 (by omega), h 5 (by omega), h 6 (by omega)]
  rfl
theorem lf_one {K V L K' V' L' : List Int} {k i : Nat} (hi : i < 7) (h : eqE K V L K' V' L' (7 * k + i) = false) : lfEq K V L K' V' L' k = false := by
  unfold lfEq
  match i, hi with
  | 0, _ => rw [h]; simp
  | 1, _ => rw [h]; simp
  | 2, _ => rw [h]; simp
  | 3, _ => rw [h]; simp
  | 4, _ => rw [h]; simp
  | 5, _ => rw [h]; simp
  | 6, _ => rw [h]; simp
theorem jj_eq {x0 : Int} {i : Nat} (h0 : 0 ≤ x0) (h1 : x0 < 7) (hi : i < 7) : jj x0 i = 7 * x0 + i := by
  unfold jj
  rw [wrap_i64 (x := 7 * x0) (by omega) (by omega), wrap_i64 (by omega) (by omega)]

theorem stepsD_sat {x0 : Int} {K V L K' V' L' : List Int} {A N : Tr (Ex × List At)} {P : Ex × List At → Prop} (h0 : 0 ≤ x0) (h1 : x0 < 7) (hA : lfEq K V L K' V' L' x0.toNat = false → A.sat P) (hN : lfEq K V L K' V' L' x0.toNat = true → N.sat P) : ∀ m i, i + m = 7 → (∀ j, j < i → eqE K V L K' V' L' (7 * x0.toNat + j) = true) → (stepsD x0 K V L K' V' L' A N m i).sat P
  | 0, i, hm, he => hN (lf_all fun j hj => he j (by omega))
  | m + 1, i, hm, he => by
    have hj : (jj x0 i).toNat = 7 * x0.toNat + i := by rw [jj_eq h0 h1 (by omega)]; omega
    have hw := jj_eq (i := i) h0 h1 (by omega)
    refine brW (fun _ => brW (fun _ => ?_) (fun hh => by exfalso; rw [hw] at hh; omega)) (fun hh => by exfalso; rw [hw] at hh; omega)
    rw [hj]
    refine brN (fun h => hA (lf_one (by omega) h)) (fun h => stepsD_sat h0 h1 hA hN m (i + 1) (by omega) fun j hj => ?_)
    rcases Nat.lt_or_ge j i with h2 | h2
    · exact he j h2
    · obtain rfl : j = i := by omega
      exact h

def lsD (l : List At) (y : Int) (n : Nat) (g : Nat → Nat → Int) : List At := [.i y, .i (aI l 1), .i (aI l 2), .i (aI l 3), .i (aI l 4), .i (aI l 5), .i (aI l 6), .i (aI l 7), .i (aI l 8), .i (aI l 9), .i (aI l 10), .i (aI l 11), .i (aI l 12), .i (aI l 13), .i (aI l 14), .i (aI l 15), .i (aI l 16), .i (aI l 17), .i (aI l 18), .i (aI l 19), .i (aI l 20), .i (aI l 21), .i (aI l 22), .i (aI l 23), .i (aI l 24), .i (aI l 25), .i (aI l 26), .i (aI l 27), .i (aI l 28), .i (aI l 29), .i (aI l 30), .i (aI l 31), .i (aI l 32), .i (aI l 33), .i (aI l 34), .i (aI l 35), .i (aI l 36), .i (aI l 37), .i (aI l 38), .i (aI l 39), .i (aI l 40), .i (aI l 41), .i (aI l 42), .i (aI l 43), .i (aI l 44), .i (aI l 45), .i (aI l 46), .i (aI l 47), .i (aI l 48), .i (aI l 49), .i (aI l 50), .i (aI l 51), .i (aI l 52), .i (aI l 53), .i (aI l 54), .i (aI l 55), .i (aI l 56), .i (aI l 57), .i (aI l 58), .i (aI l 59), .i (aI l 60), .i (aI l 61), .i (aI l 62), .i (aI l 63), .i (aI l 64), .i (aI l 65), .i (aI l 66), .i (aI l 67), .i (aI l 68), .i (aI l 69), .i (aI l 70), .i (aI l 71), .i (aI l 72), .i (aI l 73), .i (aI l 74), .i (aI l 75), .i (aI l 76), .i (aI l 77), .i (aI l 78), .i (aI l 79), .i (aI l 80), .i (aI l 81), .i (aI l 82), .i (aI l 83), .i (aI l 84), .i (aI l 85), .i (aI l 86), .i (aI l 87), .i (aI l 88), .i (aI l 89), .i (aI l 90), .i (aI l 91), .i (aI l 92), .i (aI l 93), .i (aI l 94), .i (aI l 95), .i (aI l 96), .i (aI l 97), .i (aI l 98), .i (aI l 99), .i (aI l 100), .i (aI l 101), .i (aI l 102), .i (aI l 103), .i (aI l 104), .i (aI l 105), .i (aI l 106), .i (aI l 107), .i (aI l 108), .i (aI l 109), .i (aI l 110), .i (aI l 111), .i (aI l 112), .i (aI l 113), .i (aI l 114), .i (aI l 115), .i (aI l 116), .i (aI l 117), .i (aI l 118), .i (aI l 119), .i (aI l 120), .i (aI l 121), .i (aI l 122), .i (aI l 123), .i (aI l 124), .i (aI l 125), .i (aI l 126), .i (aI l 127), .i (aI l 128), .i (aI l 129), .i (aI l 130), .i (aI l 131), .i (aI l 132), .i (aI l 133), .i (aI l 134), .i (aI l 135), .i (aI l 136), .i (aI l 137), .i (aI l 138), .i (aI l 139), .i (aI l 140), .i (aI l 141), .i (aI l 142), .i (aI l 143), .i (aI l 144), .i (aI l 145), .i (aI l 146), .i (aI l 147), .i (aI l 148), .i (aI l 149), .i (aI l 150), .i (aI l 151), .i (aI l 152), .i (aI l 153), .i (aI l 154), .i (aI l 155), .i (aI l 156), .i (aI l 157), .i (aI l 158), .i (aI l 159), .i (aI l 160), .i (aI l 161), .i (aI l 162), .i (aI l 163), .i (aI l 164), .i (aI l 165), .i (aI l 166), .i (aI l 167), .i (aI l 168), .i (aI l 169), .i (aI l 170), .i (aI l 171), .i (aI l 172), .i (aI l 173), .i (aI l 174), .i (aI l 175), .i (aI l 176), .i (aI l 177), .i (aI l 178), .i (aI l 179), .i (aI l 180), .i (aI l 181), .i (aI l 182), .i (aI l 183), .i (aI l 184), .i (aI l 185), .i (aI l 186), .i (aI l 187), .i (aI l 188), .i (aI l 189), .i (aI l 190), .i (aI l 191), .i (aI l 192), .i (aI l 193), .i (aI l 194), .i (aI l 195), .i (aI l 196), .i (aI l 197), .i (aI l 198), .i (aI l 199), .i (aI l 200), .i (aI l 201), .i (aI l 202), .i (aI l 203), .i (aI l 204), .i (aI l 205), .i (aI l 206), .i (aI l 207), .i (aI l 208), .i (aI l 209), .i (aI l 210), .i (aI l 211), .i (aI l 212), .i (aI l 213), .i (aI l 214), .i (aI l 215), .i (aI l 216), .i (aI l 217), .i (aI l 218), .i (aI l 219), .i (aI l 220), .i (aI l 221), .i (aI l 222), .i (aI l 223), .i (aI l 224), .i (aI l 225), .i (aI l 226), .i (aI l 227), .i (aI l 228), .i (aI l 229), .i (aI l 230), .i (aI l 231), .i (aI l 232), .i (aI l 233), .i (aI l 234), .i (aI l 235), .i (aI l 236), .i (aI l 237), .i (aI l 238), .i (aI l 239), .i (aI l 240), .i (aI l 241), .i (aI l 242), .i (aI l 243), .i (aI l 244), .i (aI l 245), .i (aI l 246), .i (aI l 247), .i (aI l 248), .i (aI l 249), .i (aI l 250), .i (aI l 251), .i (aI l 252), .i (aI l 253), .i (aI l 254), .i (aI l 255), .i (aI l 256), .i (aI l 257), .i (aI l 258), .i (aI l 259), .i (aI l 260), .i (aI l 261), .i (aI l 262), .i (aI l 263), .i (aI l 264), .i (aI l 265), .i (aI l 266), .i (aI l 267), .i (aI l 268), .i (aI l 269), .i (aI l 270), .i (aI l 271), .i (aI l 272), .i (aI l 273), .i (aI l 274), .i (aI l 275), .i (aI l 276), .i (aI l 277), .i (aI l 278), .i (aI l 279), .i (aI l 280), .i (aI l 281), .i (aI l 282), .i (aI l 283), .i (aI l 284), .i (aI l 285), .i (aI l 286), .i (aI l 287), .i (aI l 288), .i (aI l 289), .i (aI l 290), .i (aI l 291), .i (aI l 292), .i (aI l 293), .i (aI l 294), .r n g]
theorem eN_rDiff_3 (l : List At) : BL_rDiff_3 l = .br 10 (decide (aI l 0 < 7)) (stepsD (aI l 0) (colK (aI l 1) (aI l 4) (aI l 7) (aI l 10) (aI l 13) (aI l 16) (aI l 19) (aI l 22) (aI l 25) (aI l 28) (aI l 31) (aI l 34) (aI l 37) (aI l 40) (aI l 43) (aI l 46) (aI l 49) (aI l 52) (aI l 55) (aI l 58) (aI l 61) (aI l 64) (aI l 67) (aI l 70) (aI l 73) (aI l 76) (aI l 79) (aI l 82) (aI l 85) (aI l 88) (aI l 91) (aI l 94) (aI l 97) (aI l 100) (aI l 103) (aI l 106) (aI l 109) (aI l 112) (aI l 115) (aI l 118) (aI l 121) (aI l 124) (aI l 127) (aI l 130) (aI l 133) (aI l 136) (aI l 139) (aI l 142) (aI l 145)) (colV (aI l 2) (aI l 5) (aI l 8) (aI l 11) (aI l 14) (aI l 17) (aI l 20) (aI l 23) (aI l 26) (aI l 29) (aI l 32) (aI l 35) (aI l 38) (aI l 41) (aI l 44) (aI l 47) (aI l 50) (aI l 53) (aI l 56) (aI l 59) (aI l 62) (aI l 65) (aI l 68) (aI l 71) (aI l 74) (aI l 77) (aI l 80) (aI l 83) (aI l 86) (aI l 89) (aI l 92) (aI l 95) (aI l 98) (aI l 101) (aI l 104) (aI l 107) (aI l 110) (aI l 113) (aI l 116) (aI l 119) (aI l 122) (aI l 125) (aI l 128) (aI l 131) (aI l 134) (aI l 137) (aI l 140) (aI l 143) (aI l 146)) (colL (aI l 3) (aI l 6) (aI l 9) (aI l 12) (aI l 15) (aI l 18) (aI l 21) (aI l 24) (aI l 27) (aI l 30) (aI l 33) (aI l 36) (aI l 39) (aI l 42) (aI l 45) (aI l 48) (aI l 51) (aI l 54) (aI l 57) (aI l 60) (aI l 63) (aI l 66) (aI l 69) (aI l 72) (aI l 75) (aI l 78) (aI l 81) (aI l 84) (aI l 87) (aI l 90) (aI l 93) (aI l 96) (aI l 99) (aI l 102) (aI l 105) (aI l 108) (aI l 111) (aI l 114) (aI l 117) (aI l 120) (aI l 123) (aI l 126) (aI l 129) (aI l 132) (aI l 135) (aI l 138) (aI l 141) (aI l 144) (aI l 147)) (colK (aI l 148) (aI l 151) (aI l 154) (aI l 157) (aI l 160) (aI l 163) (aI l 166) (aI l 169) (aI l 172) (aI l 175) (aI l 178) (aI l 181) (aI l 184) (aI l 187) (aI l 190) (aI l 193) (aI l 196) (aI l 199) (aI l 202) (aI l 205) (aI l 208) (aI l 211) (aI l 214) (aI l 217) (aI l 220) (aI l 223) (aI l 226) (aI l 229) (aI l 232) (aI l 235) (aI l 238) (aI l 241) (aI l 244) (aI l 247) (aI l 250) (aI l 253) (aI l 256) (aI l 259) (aI l 262) (aI l 265) (aI l 268) (aI l 271) (aI l 274) (aI l 277) (aI l 280) (aI l 283) (aI l 286) (aI l 289) (aI l 292)) (colV (aI l 149) (aI l 152) (aI l 155) (aI l 158) (aI l 161) (aI l 164) (aI l 167) (aI l 170) (aI l 173) (aI l 176) (aI l 179) (aI l 182) (aI l 185) (aI l 188) (aI l 191) (aI l 194) (aI l 197) (aI l 200) (aI l 203) (aI l 206) (aI l 209) (aI l 212) (aI l 215) (aI l 218) (aI l 221) (aI l 224) (aI l 227) (aI l 230) (aI l 233) (aI l 236) (aI l 239) (aI l 242) (aI l 245) (aI l 248) (aI l 251) (aI l 254) (aI l 257) (aI l 260) (aI l 263) (aI l 266) (aI l 269) (aI l 272) (aI l 275) (aI l 278) (aI l 281) (aI l 284) (aI l 287) (aI l 290) (aI l 293)) (colL (aI l 150) (aI l 153) (aI l 156) (aI l 159) (aI l 162) (aI l 165) (aI l 168) (aI l 171) (aI l 174) (aI l 177) (aI l 180) (aI l 183) (aI l 186) (aI l 189) (aI l 192) (aI l 195) (aI l 198) (aI l 201) (aI l 204) (aI l 207) (aI l 210) (aI l 213) (aI l 216) (aI l 219) (aI l 222) (aI l 225) (aI l 228) (aI l 231) (aI l 234) (aI l 237) (aI l 240) (aI l 243) (aI l 246) (aI l 249) (aI l 252) (aI l 255) (aI l 258) (aI l 261) (aI l 264) (aI l 267) (aI l 270) (aI l 273) (aI l 276) (aI l 279) (aI l 282) (aI l 285) (aI l 288) (aI l 291) (aI l 294)) (.br 37 (decide (aRn l 295 + 1 ≤ 1073741824)) (.ok (.normal, lsD l (IntKind.i64.wrap (aI l 0 + 1)) (aRn l 295 + 1) (appG (aRg l 295) (aRn l 295) (rowsF [[aI l 0]])))) .no) (.ok (.normal, lsD l (IntKind.i64.wrap (aI l 0 + 1)) (aRn l 295) (aRg l 295))) 7 0) (.ok (.exit 0, [.r (aRn l 295) (aRg l 295)])) := by kernel_rfl
def dfL (l : List At) (m k : Nat) : List Int := dfs (colK (aI l 1) (aI l 4) (aI l 7) (aI l 10) (aI l 13) (aI l 16) (aI l 19) (aI l 22) (aI l 25) (aI l 28) (aI l 31) (aI l 34) (aI l 37) (aI l 40) (aI l 43) (aI l 46) (aI l 49) (aI l 52) (aI l 55) (aI l 58) (aI l 61) (aI l 64) (aI l 67) (aI l 70) (aI l 73) (aI l 76) (aI l 79) (aI l 82) (aI l 85) (aI l 88) (aI l 91) (aI l 94) (aI l 97) (aI l 100) (aI l 103) (aI l 106) (aI l 109) (aI l 112) (aI l 115) (aI l 118) (aI l 121) (aI l 124) (aI l 127) (aI l 130) (aI l 133) (aI l 136) (aI l 139) (aI l 142) (aI l 145)) (colV (aI l 2) (aI l 5) (aI l 8) (aI l 11) (aI l 14) (aI l 17) (aI l 20) (aI l 23) (aI l 26) (aI l 29) (aI l 32) (aI l 35) (aI l 38) (aI l 41) (aI l 44) (aI l 47) (aI l 50) (aI l 53) (aI l 56) (aI l 59) (aI l 62) (aI l 65) (aI l 68) (aI l 71) (aI l 74) (aI l 77) (aI l 80) (aI l 83) (aI l 86) (aI l 89) (aI l 92) (aI l 95) (aI l 98) (aI l 101) (aI l 104) (aI l 107) (aI l 110) (aI l 113) (aI l 116) (aI l 119) (aI l 122) (aI l 125) (aI l 128) (aI l 131) (aI l 134) (aI l 137) (aI l 140) (aI l 143) (aI l 146)) (colL (aI l 3) (aI l 6) (aI l 9) (aI l 12) (aI l 15) (aI l 18) (aI l 21) (aI l 24) (aI l 27) (aI l 30) (aI l 33) (aI l 36) (aI l 39) (aI l 42) (aI l 45) (aI l 48) (aI l 51) (aI l 54) (aI l 57) (aI l 60) (aI l 63) (aI l 66) (aI l 69) (aI l 72) (aI l 75) (aI l 78) (aI l 81) (aI l 84) (aI l 87) (aI l 90) (aI l 93) (aI l 96) (aI l 99) (aI l 102) (aI l 105) (aI l 108) (aI l 111) (aI l 114) (aI l 117) (aI l 120) (aI l 123) (aI l 126) (aI l 129) (aI l 132) (aI l 135) (aI l 138) (aI l 141) (aI l 144) (aI l 147)) (colK (aI l 148) (aI l 151) (aI l 154) (aI l 157) (aI l 160) (aI l 163) (aI l 166) (aI l 169) (aI l 172) (aI l 175) (aI l 178) (aI l 181) (aI l 184) (aI l 187) (aI l 190) (aI l 193) (aI l 196) (aI l 199) (aI l 202) (aI l 205) (aI l 208) (aI l 211) (aI l 214) (aI l 217) (aI l 220) (aI l 223) (aI l 226) (aI l 229) (aI l 232) (aI l 235) (aI l 238) (aI l 241) (aI l 244) (aI l 247) (aI l 250) (aI l 253) (aI l 256) (aI l 259) (aI l 262) (aI l 265) (aI l 268) (aI l 271) (aI l 274) (aI l 277) (aI l 280) (aI l 283) (aI l 286) (aI l 289) (aI l 292)) (colV (aI l 149) (aI l 152) (aI l 155) (aI l 158) (aI l 161) (aI l 164) (aI l 167) (aI l 170) (aI l 173) (aI l 176) (aI l 179) (aI l 182) (aI l 185) (aI l 188) (aI l 191) (aI l 194) (aI l 197) (aI l 200) (aI l 203) (aI l 206) (aI l 209) (aI l 212) (aI l 215) (aI l 218) (aI l 221) (aI l 224) (aI l 227) (aI l 230) (aI l 233) (aI l 236) (aI l 239) (aI l 242) (aI l 245) (aI l 248) (aI l 251) (aI l 254) (aI l 257) (aI l 260) (aI l 263) (aI l 266) (aI l 269) (aI l 272) (aI l 275) (aI l 278) (aI l 281) (aI l 284) (aI l 287) (aI l 290) (aI l 293)) (colL (aI l 150) (aI l 153) (aI l 156) (aI l 159) (aI l 162) (aI l 165) (aI l 168) (aI l 171) (aI l 174) (aI l 177) (aI l 180) (aI l 183) (aI l 186) (aI l 189) (aI l 192) (aI l 195) (aI l 198) (aI l 201) (aI l 204) (aI l 207) (aI l 210) (aI l 213) (aI l 216) (aI l 219) (aI l 222) (aI l 225) (aI l 228) (aI l 231) (aI l 234) (aI l 237) (aI l 240) (aI l 243) (aI l 246) (aI l 249) (aI l 252) (aI l 255) (aI l 258) (aI l 261) (aI l 264) (aI l 267) (aI l 270) (aI l 273) (aI l 276) (aI l 279) (aI l 282) (aI l 285) (aI l 288) (aI l 291) (aI l 294)) m k
def lfL (l : List At) (k : Nat) : Bool := lfEq (colK (aI l 1) (aI l 4) (aI l 7) (aI l 10) (aI l 13) (aI l 16) (aI l 19) (aI l 22) (aI l 25) (aI l 28) (aI l 31) (aI l 34) (aI l 37) (aI l 40) (aI l 43) (aI l 46) (aI l 49) (aI l 52) (aI l 55) (aI l 58) (aI l 61) (aI l 64) (aI l 67) (aI l 70) (aI l 73) (aI l 76) (aI l 79) (aI l 82) (aI l 85) (aI l 88) (aI l 91) (aI l 94) (aI l 97) (aI l 100) (aI l 103) (aI l 106) (aI l 109) (aI l 112) (aI l 115) (aI l 118) (aI l 121) (aI l 124) (aI l 127) (aI l 130) (aI l 133) (aI l 136) (aI l 139) (aI l 142) (aI l 145)) (colV (aI l 2) (aI l 5) (aI l 8) (aI l 11) (aI l 14) (aI l 17) (aI l 20) (aI l 23) (aI l 26) (aI l 29) (aI l 32) (aI l 35) (aI l 38) (aI l 41) (aI l 44) (aI l 47) (aI l 50) (aI l 53) (aI l 56) (aI l 59) (aI l 62) (aI l 65) (aI l 68) (aI l 71) (aI l 74) (aI l 77) (aI l 80) (aI l 83) (aI l 86) (aI l 89) (aI l 92) (aI l 95) (aI l 98) (aI l 101) (aI l 104) (aI l 107) (aI l 110) (aI l 113) (aI l 116) (aI l 119) (aI l 122) (aI l 125) (aI l 128) (aI l 131) (aI l 134) (aI l 137) (aI l 140) (aI l 143) (aI l 146)) (colL (aI l 3) (aI l 6) (aI l 9) (aI l 12) (aI l 15) (aI l 18) (aI l 21) (aI l 24) (aI l 27) (aI l 30) (aI l 33) (aI l 36) (aI l 39) (aI l 42) (aI l 45) (aI l 48) (aI l 51) (aI l 54) (aI l 57) (aI l 60) (aI l 63) (aI l 66) (aI l 69) (aI l 72) (aI l 75) (aI l 78) (aI l 81) (aI l 84) (aI l 87) (aI l 90) (aI l 93) (aI l 96) (aI l 99) (aI l 102) (aI l 105) (aI l 108) (aI l 111) (aI l 114) (aI l 117) (aI l 120) (aI l 123) (aI l 126) (aI l 129) (aI l 132) (aI l 135) (aI l 138) (aI l 141) (aI l 144) (aI l 147)) (colK (aI l 148) (aI l 151) (aI l 154) (aI l 157) (aI l 160) (aI l 163) (aI l 166) (aI l 169) (aI l 172) (aI l 175) (aI l 178) (aI l 181) (aI l 184) (aI l 187) (aI l 190) (aI l 193) (aI l 196) (aI l 199) (aI l 202) (aI l 205) (aI l 208) (aI l 211) (aI l 214) (aI l 217) (aI l 220) (aI l 223) (aI l 226) (aI l 229) (aI l 232) (aI l 235) (aI l 238) (aI l 241) (aI l 244) (aI l 247) (aI l 250) (aI l 253) (aI l 256) (aI l 259) (aI l 262) (aI l 265) (aI l 268) (aI l 271) (aI l 274) (aI l 277) (aI l 280) (aI l 283) (aI l 286) (aI l 289) (aI l 292)) (colV (aI l 149) (aI l 152) (aI l 155) (aI l 158) (aI l 161) (aI l 164) (aI l 167) (aI l 170) (aI l 173) (aI l 176) (aI l 179) (aI l 182) (aI l 185) (aI l 188) (aI l 191) (aI l 194) (aI l 197) (aI l 200) (aI l 203) (aI l 206) (aI l 209) (aI l 212) (aI l 215) (aI l 218) (aI l 221) (aI l 224) (aI l 227) (aI l 230) (aI l 233) (aI l 236) (aI l 239) (aI l 242) (aI l 245) (aI l 248) (aI l 251) (aI l 254) (aI l 257) (aI l 260) (aI l 263) (aI l 266) (aI l 269) (aI l 272) (aI l 275) (aI l 278) (aI l 281) (aI l 284) (aI l 287) (aI l 290) (aI l 293)) (colL (aI l 150) (aI l 153) (aI l 156) (aI l 159) (aI l 162) (aI l 165) (aI l 168) (aI l 171) (aI l 174) (aI l 177) (aI l 180) (aI l 183) (aI l 186) (aI l 189) (aI l 192) (aI l 195) (aI l 198) (aI l 201) (aI l 204) (aI l 207) (aI l 210) (aI l 213) (aI l 216) (aI l 219) (aI l 222) (aI l 225) (aI l 228) (aI l 231) (aI l 234) (aI l 237) (aI l 240) (aI l 243) (aI l 246) (aI l 249) (aI l 252) (aI l 255) (aI l 258) (aI l 261) (aI l 264) (aI l 267) (aI l 270) (aI l 273) (aI l 276) (aI l 279) (aI l 282) (aI l 285) (aI l 288) (aI l 291) (aI l 294)) k
theorem dfL_step {l : List At} {m k : Nat} : dfL l (m + 1) k = bif !lfL l k then (k : Int) :: dfL l m (k + 1) else dfL l m (k + 1) := rfl
theorem dfL_len (l : List At) (m k : Nat) : (dfL l m k).length ≤ m := dfs_len ..
theorem OL_eq (l : List At) : OL_rDiff_3 l = .br 0 (preD (aI l 0) (aRn l 295)) (.ok (.exit 0, [.r (aRn l 295 + (dfL l (7 - aI l 0).toNat (aI l 0).toNat).length) (moreG (aRn l 295) (aRg l 295) (dfL l (7 - aI l 0).toNat (aI l 0).toNat))])) .no := rfl
theorem OL_ls (l : List At) (y : Int) (n : Nat) (g : Nat → Nat → Int) : OL_rDiff_3 (lsD l y n g) = .br 0 (preD y n) (.ok (.exit 0, [.r (n + (dfL l (7 - y).toNat y.toNat).length) (moreG n g (dfL l (7 - y).toNat y.toNat))])) .no := by kernel_rfl
theorem OL_val (l : List At) (y : Int) (n : Nat) (g : Nat → Nat → Int) (h : 0 ≤ y ∧ y ≤ 7 ∧ n ≤ y.toNat) : (OL_rDiff_3 (lsD l y n g)).val = some (.exit 0, [.r (n + (dfL l (7 - y).toNat y.toNat).length) (moreG n g (dfL l (7 - y).toNat y.toNat))]) := by
  rw [OL_ls]
  exact br_t (g := 0) (decide_eq_true h)
theorem more_nil {n : Nat} {g : Nat → Nat → Int} : ∀ i, i < n → ∀ c, g i c = moreG n g [] i c := by
  intro i hi c
  unfold moreG
  rw [if_pos hi]
theorem more_app {n : Nat} {g : Nat → Nat → Int} {x : Int} {D : List Int} : ∀ i c, moreG (n + 1) (appG g n (rowsF [[x]])) D i c = moreG n g (x :: D) i c := by
  intro i c
  unfold moreG
  by_cases h : i < n
  · rw [if_pos (by omega), if_pos h]
    unfold appG
    rw [if_pos h]
  · rw [if_neg h]
    by_cases h2 : i < n + 1
    · rw [if_pos h2]
      obtain rfl : i = n := by omega
      unfold appG
      rw [if_neg h, Nat.sub_self]
      cases c <;> rfl
    · rw [if_neg h2]
      have : i - n = (i - (n + 1)) + 1 := by omega
      rw [this]
      cases c <;> rfl

theorem rd_rDiff_3 : ∀ l r, (OL_rDiff_3 l).val = some r → RoundS BL_rDiff_3 OL_rDiff_3 μ_rDiff_3 l r := by
  intro l r h
  rw [OL_eq] at h
  obtain ⟨hc, h⟩ := guard_val h
  have hr := val_ok h
  have hc : 0 ≤ aI l 0 ∧ aI l 0 ≤ 7 ∧ aRn l 295 ≤ (aI l 0).toNat := of_decide_eq_true hc
  obtain ⟨c0, c1, c2⟩ := hc
  unfold RoundS
  rw [eN_rDiff_3]
  refine brD (fun h1 => ?_) (fun h1 => ?_)
  · have hw : IntKind.i64.wrap (aI l 0 + 1) = aI l 0 + 1 := wrap_i64 (by omega) (by omega)
    have hk : (7 - aI l 0).toNat = (7 - (aI l 0 + 1)).toNat + 1 := by omega
    have hk2 : (aI l 0 + 1).toNat = (aI l 0).toNat + 1 := by omega
    have hx : ((aI l 0).toNat : Int) = aI l 0 := by omega
    rw [hw]
    refine stepsD_sat c0 h1 (fun hf => ?_) (fun hf => ?_) 7 0 rfl (fun j hj => by omega)
    · refine brT (decide_eq_true (by omega)) ?_
      have hs : dfL l (7 - aI l 0).toNat (aI l 0).toNat = aI l 0 :: dfL l (7 - (aI l 0 + 1)).toNat (aI l 0 + 1).toNat := by
        rw [hk, dfL_step, hk2, hx]
        have : lfL l (aI l 0).toNat = false := hf
        rw [this]
        rfl
      refine on_ _ _ (AtsEq.refl _) ?_ (OL_val l (aI l 0 + 1) _ _ ⟨by omega, by omega, by omega⟩) ?_ ?_
      · show (7 - (aI l 0 + 1)).toNat < (7 - aI l 0).toNat
        omega
      · rw [← hr]
      · rw [← hr]
        refine atsEq_cons (atEq_r ?_ fun i _ c => ?_) atsEq_nil
        · show aRn l 295 + 1 + (dfL l (7 - (aI l 0 + 1)).toNat (aI l 0 + 1).toNat).length = aRn l 295 + (dfL l (7 - aI l 0).toNat (aI l 0).toNat).length
          rw [hs, List.length_cons]; omega
        · show moreG (aRn l 295 + 1) (appG (aRg l 295) (aRn l 295) (rowsF [[aI l 0]])) (dfL l (7 - (aI l 0 + 1)).toNat (aI l 0 + 1).toNat) i c = moreG (aRn l 295) (aRg l 295) (dfL l (7 - aI l 0).toNat (aI l 0).toNat) i c
          rw [hs]; exact more_app i c
    · have hs : dfL l (7 - aI l 0).toNat (aI l 0).toNat = dfL l (7 - (aI l 0 + 1)).toNat (aI l 0 + 1).toNat := by
        rw [hk, dfL_step, hk2]
        have : lfL l (aI l 0).toNat = true := hf
        rw [this]
        rfl
      refine on_ _ _ (AtsEq.refl _) ?_ (OL_val l (aI l 0 + 1) _ _ ⟨by omega, by omega, by omega⟩) ?_ ?_
      · show (7 - (aI l 0 + 1)).toNat < (7 - aI l 0).toNat
        omega
      · rw [← hr]
      · rw [← hr]
        refine atsEq_cons (atEq_r ?_ fun i _ c => ?_) atsEq_nil
        · show aRn l 295 + (dfL l (7 - (aI l 0 + 1)).toNat (aI l 0 + 1).toNat).length = aRn l 295 + (dfL l (7 - aI l 0).toNat (aI l 0).toNat).length
          rw [hs]
        · show moreG (aRn l 295) (aRg l 295) (dfL l (7 - (aI l 0 + 1)).toNat (aI l 0 + 1).toNat) i c = moreG (aRn l 295) (aRg l 295) (dfL l (7 - aI l 0).toNat (aI l 0).toNat) i c
          rw [hs]
  · have hs : dfL l (7 - aI l 0).toNat (aI l 0).toNat = [] := by
      have : (7 - aI l 0).toNat = 0 := by omega
      rw [this]; rfl
    rw [← hr, hs]
    exact out_ (by simp) rfl (atsEq_cons (atEq_r (by simp) more_nil) atsEq_nil)
end Go.Proofs.Ytobikddlkoibjaa.G
end

/-
  What functions of the seat compute, printed by a program from the explorer.
-/
section
namespace Go.Proofs.Ytobikddlkoibjaa.G
open Go Go.AM Go.Proofs
theorem f_rDiff_3 : LoopF Try.prog 0 (loopAt Try.f20 3) (loopFn 0 lsh_rDiff_3 xs_rDiff_3 OL_rDiff_3) :=
  loop_sat (sy := y_rDiff_3) (fuel := 100) (Lp := noLoops) o_gDiff mixed (loopsOK_at (noLoops_ok _) 3) rfl eB_rDiff_3 rd_rDiff_3
def Lp_rDiff_3 : Loops := Loops.set noLoops 3 (loopFn 0 lsh_rDiff_3 xs_rDiff_3 OL_rDiff_3)
theorem lk_rDiff_3 : LoopsFn Try.prog 0 Lp_rDiff_3 Try.f20 := loopsFn_set (noLoops_ok _) (by kernel_rfl) f_rDiff_3

/-! ### rDiff -/

def ish_rDiff : FSh := ⟨[.v true [.k (.n .i64), .k (.n .i64), .k (.n .i64), .k (.n .i64), .k (.n .i64), .k (.n .i64), .k (.n .i64), .k (.n .i64), .k (.n .i64), .k (.n .i64), .k (.n .i64), .k (.n .i64), .k (.n .i64), .k (.n .i64), .k (.n .i64), .k (.n .i64), .k (.n .i64), .k (.n .i64), .k (.n .i64), .k (.n .i64), .k (.n .i64), .k (.n .i64), .k (.n .i64), .k (.n .i64), .k (.n .i64), .k (.n .i64), .k (.n .i64), .k (.n .i64), .k (.n .i64), .k (.n .i64), .k (.n .i64), .k (.n .i64), .k (.n .i64), .k (.n .i64), .k (.n .i64), .k (.n .i64), .k (.n .i64), .k (.n .i64), .k (.n .i64), .k (.n .i64), .k (.n .i64), .k (.n .i64), .k (.n .i64), .k (.n .i64), .k (.n .i64), .k (.n .i64), .k (.n .i64), .k (.n .i64), .k (.n .i64), .k (.n .i64), .k (.n .i64), .k (.n .i64), .k (.n .i64), .k (.n .i64), .k (.n .i64), .k (.n .i64), .k (.n .i64), .k (.n .i64), .k (.n .i64), .k (.n .i64), .k (.n .i64), .k (.n .i64), .k (.n .i64), .k (.n .i64), .k (.n .i64), .k (.n .i64), .k (.n .i64), .k (.n .i64), .k (.n .i64), .k (.n .i64), .k (.n .i64), .k (.n .i64), .k (.n .i64), .k (.n .i64), .k (.n .i64), .k (.n .i64), .k (.n .i64), .k (.n .i64), .k (.n .i64), .k (.n .i64), .k (.n .i64), .k (.n .i64), .k (.n .i64), .k (.n .i64), .k (.n .i64), .k (.n .i64), .k (.n .i64), .k (.n .i64), .k (.n .i64), .k (.n .i64), .k (.n .i64), .k (.n .i64), .k (.n .i64), .k (.n .i64), .k (.n .i64), .k (.n .i64), .k (.n .i64), .k (.n .i64), .k (.n .i64), .k (.n .i64), .k (.n .i64), .k (.n .i64), .k (.n .i64), .k (.n .i64), .k (.n .i64), .k (.n .i64), .k (.n .i64), .k (.n .i64), .k (.n .i64), .k (.n .i64), .k (.n .i64), .k (.n .i64), .k (.n .i64), .k (.n .i64), .k (.n .i64), .k (.n .i64), .k (.n .i64), .k (.n .i64), .k (.n .i64), .k (.n .i64), .k (.n .i64), .k (.n .i64), .k (.n .i64), .k (.n .i64), .k (.n .i64), .k (.n .i64), .k (.n .i64), .k (.n .i64), .k (.n .i64), .k (.n .i64), .k (.n .i64), .k (.n .i64), .k (.n .i64), .k (.n .i64), .k (.n .i64), .k (.n .i64), .k (.n .i64), .k (.n .i64), .k (.n .i64), .k (.n .i64), .k (.n .i64), .k (.n .i64), .k (.n .i64), .k (.n .i64), .k (.n .i64), .k (.n .i64), .k (.n .i64)], .v true [.k (.n .i64), .k (.n .i64), .k (.n .i64), .k (.n .i64), .k (.n .i64), .k (.n .i64), .k (.n .i64), .k (.n .i64), .k (.n .i64), .k (.n .i64), .k (.n .i64), .k (.n .i64), .k (.n .i64), .k (.n .i64), .k (.n .i64), .k (.n .i64), .k (.n .i64), .k (.n .i64), .k (.n .i64), .k (.n .i64), .k (.n .i64), .k (.n .i64), .k (.n .i64), .k (.n .i64), .k (.n .i64), .k (.n .i64), .k (.n .i64), .k (.n .i64), .k (.n .i64), .k (.n .i64), .k (.n .i64), .k (.n .i64), .k (.n .i64), .k (.n .i64), .k (.n .i64), .k (.n .i64), .k (.n .i64), .k (.n .i64), .k (.n .i64), .k (.n .i64), .k (.n .i64), .k (.n .i64), .k (.n .i64), .k (.n .i64), .k (.n .i64), .k (.n .i64), .k (.n .i64), .k (.n .i64), .k (.n .i64), .k (.n .i64), .k (.n .i64), .k (.n .i64), .k (.n .i64), .k (.n .i64), .k (.n .i64), .k (.n .i64), .k (.n .i64), .k (.n .i64), .k (.n .i64), .k (.n .i64), .k (.n .i64), .k (.n .i64), .k (.n .i64), .k (.n .i64), .k (.n .i64), .k (.n .i64), .k (.n .i64), .k (.n .i64), .k (.n .i64), .k (.n .i64), .k (.n .i64), .k (.n .i64), .k (.n .i64), .k (.n .i64), .k (.n .i64), .k (.n .i64), .k (.n .i64), .k (.n .i64), .k (.n .i64), .k (.n .i64), .k (.n .i64), .k (.n .i64), .k (.n .i64), .k (.n .i64), .k (.n .i64), .k (.n .i64), .k (.n .i64), .k (.n .i64), .k (.n .i64), .k (.n .i64), .k (.n .i64), .k (.n .i64), .k (.n .i64), .k (.n .i64), .k (.n .i64), .k (.n .i64), .k (.n .i64), .k (.n .i64), .k (.n .i64), .k (.n .i64), .k (.n .i64), .k (.n .i64), .k (.n .i64), .k (.n .i64), .k (.n .i64), .k (.n .i64), .k (.n .i64), .k (.n .i64), .k (.n .i64), .k (.n .i64), .k (.n .i64), .k (.n .i64), .k (.n .i64), .k (.n .i64), .k (.n .i64), .k (.n .i64), .k (.n .i64), .k (.n .i64), .k (.n .i64), .k (.n .i64), .k (.n .i64), .k (.n .i64), .k (.n .i64), .k (.n .i64), .k (.n .i64), .k (.n .i64), .k (.n .i64), .k (.n .i64), .k (.n .i64), .k (.n .i64), .k (.n .i64), .k (.n .i64), .k (.n .i64), .k (.n .i64), .k (.n .i64), .k (.n .i64), .k (.n .i64), .k (.n .i64), .k (.n .i64), .k (.n .i64), .k (.n .i64), .k (.n .i64), .k (.n .i64), .k (.n .i64), .k (.n .i64), .k (.n .i64), .k (.n .i64)]], []⟩
def osh_rDiff : FSh := ⟨[.v false [.sw 0 1]], [.rows [.n .i64] true]⟩
def T_rDiff (x0 : Int) (x1 : Int) (x2 : Int) (x3 : Int) (x4 : Int) (x5 : Int) (x6 : Int) (x7 : Int) (x8 : Int) (x9 : Int) (x10 : Int) (x11 : Int) (x12 : Int) (x13 : Int) (x14 : Int) (x15 : Int) (x16 : Int) (x17 : Int) (x18 : Int) (x19 : Int) (x20 : Int) (x21 : Int) (x22 : Int) (x23 : Int) (x24 : Int) (x25 : Int) (x26 : Int) (x27 : Int) (x28 : Int) (x29 : Int) (x30 : Int) (x31 : Int) (x32 : Int) (x33 : Int) (x34 : Int) (x35 : Int) (x36 : Int) (x37 : Int) (x38 : Int) (x39 : Int) (x40 : Int) (x41 : Int) (x42 : Int) (x43 : Int) (x44 : Int) (x45 : Int) (x46 : Int) (x47 : Int) (x48 : Int) (x49 : Int) (x50 : Int) (x51 : Int) (x52 : Int) (x53 : Int) (x54 : Int) (x55 : Int) (x56 : Int) (x57 : Int) (x58 : Int) (x59 : Int) (x60 : Int) (x61 : Int) (x62 : Int) (x63 : Int) (x64 : Int) (x65 : Int) (x66 : Int) (x67 : Int) (x68 : Int) (x69 : Int) (x70 : Int) (x71 : Int) (x72 : Int) (x73 : Int) (x74 : Int) (x75 : Int) (x76 : Int) (x77 : Int) (x78 : Int) (x79 : Int) (x80 : Int) (x81 : Int) (x82 : Int) (x83 : Int) (x84 : Int) (x85 : Int) (x86 : Int) (x87 : Int) (x88 : Int) (x89 : Int) (x90 : Int) (x91 : Int) (x92 : Int) (x93 : Int) (x94 : Int) (x95 : Int) (x96 : Int) (x97 : Int) (x98 : Int) (x99 : Int) (x100 : Int) (x101 : Int) (x102 : Int) (x103 : Int) (x104 : Int) (x105 : Int) (x106 : Int) (x107 : Int) (x108 : Int) (x109 : Int) (x110 : Int) (x111 : Int) (x112 : Int) (x113 : Int) (x114 : Int) (x115 : Int) (x116 : Int) (x117 : Int) (x118 : Int) (x119 : Int) (x120 : Int) (x121 : Int) (x122 : Int) (x123 : Int) (x124 : Int) (x125 : Int) (x126 : Int) (x127 : Int) (x128 : Int) (x129 : Int) (x130 : Int) (x131 : Int) (x132 : Int) (x133 : Int) (x134 : Int) (x135 : Int) (x136 : Int) (x137 : Int) (x138 : Int) (x139 : Int) (x140 : Int) (x141 : Int) (x142 : Int) (x143 : Int) (x144 : Int) (x145 : Int) (x146 : Int) (x147 : Int) (x148 : Int) (x149 : Int) (x150 : Int) (x151 : Int) (x152 : Int) (x153 : Int) (x154 : Int) (x155 : Int) (x156 : Int) (x157 : Int) (x158 : Int) (x159 : Int) (x160 : Int) (x161 : Int) (x162 : Int) (x163 : Int) (x164 : Int) (x165 : Int) (x166 : Int) (x167 : Int) (x168 : Int) (x169 : Int) (x170 : Int) (x171 : Int) (x172 : Int) (x173 : Int) (x174 : Int) (x175 : Int) (x176 : Int) (x177 : Int) (x178 : Int) (x179 : Int) (x180 : Int) (x181 : Int) (x182 : Int) (x183 : Int) (x184 : Int) (x185 : Int) (x186 : Int) (x187 : Int) (x188 : Int) (x189 : Int) (x190 : Int) (x191 : Int) (x192 : Int) (x193 : Int) (x194 : Int) (x195 : Int) (x196 : Int) (x197 : Int) (x198 : Int) (x199 : Int) (x200 : Int) (x201 : Int) (x202 : Int) (x203 : Int) (x204 : Int) (x205 : Int) (x206 : Int) (x207 : Int) (x208 : Int) (x209 : Int) (x210 : Int) (x211 : Int) (x212 : Int) (x213 : Int) (x214 : Int) (x215 : Int) (x216 : Int) (x217 : Int) (x218 : Int) (x219 : Int) (x220 : Int) (x221 : Int) (x222 : Int) (x223 : Int) (x224 : Int) (x225 : Int) (x226 : Int) (x227 : Int) (x228 : Int) (x229 : Int) (x230 : Int) (x231 : Int) (x232 : Int) (x233 : Int) (x234 : Int) (x235 : Int) (x236 : Int) (x237 : Int) (x238 : Int) (x239 : Int) (x240 : Int) (x241 : Int) (x242 : Int) (x243 : Int) (x244 : Int) (x245 : Int) (x246 : Int) (x247 : Int) (x248 : Int) (x249 : Int) (x250 : Int) (x251 : Int) (x252 : Int) (x253 : Int) (x254 : Int) (x255 : Int) (x256 : Int) (x257 : Int) (x258 : Int) (x259 : Int) (x260 : Int) (x261 : Int) (x262 : Int) (x263 : Int) (x264 : Int) (x265 : Int) (x266 : Int) (x267 : Int) (x268 : Int) (x269 : Int) (x270 : Int) (x271 : Int) (x272 : Int) (x273 : Int) (x274 : Int) (x275 : Int) (x276 : Int) (x277 : Int) (x278 : Int) (x279 : Int) (x280 : Int) (x281 : Int) (x282 : Int) (x283 : Int) (x284 : Int) (x285 : Int) (x286 : Int) (x287 : Int) (x288 : Int) (x289 : Int) (x290 : Int) (x291 : Int) (x292 : Int) (x293 : Int) : Tr (List At) :=
 .br 0 (true)
 (.ok [(.r ((0 : Nat) + List.length (dfs [x0, x3, x6, x9, x12, x15, x18, x21, x24, x27, x30, x33, x36, x39, x42, x45, x48, x51, x54, x57, x60, x63, x66, x69, x72, x75, x78, x81, x84, x87, x90, x93, x96, x99, x102, x105, x108, x111, x114, x117, x120, x123, x126, x129, x132, x135, x138, x141, x144] [x1, x4, x7, x10, x13, x16, x19, x22, x25, x28, x31, x34, x37, x40, x43, x46, x49, x52, x55, x58, x61, x64, x67, x70, x73, x76, x79, x82, x85, x88, x91, x94, x97, x100, x103, x106, x109, x112, x115, x118, x121, x124, x127, x130, x133, x136, x139, x142, x145] [x2, x5, x8, x11, x14, x17, x20, x23, x26, x29, x32, x35, x38, x41, x44, x47, x50, x53, x56, x59, x62, x65, x68, x71, x74, x77, x80, x83, x86, x89, x92, x95, x98, x101, x104, x107, x110, x113, x116, x119, x122, x125, x128, x131, x134, x137, x140, x143, x146] [x147, x150, x153, x156, x159, x162, x165, x168, x171, x174, x177, x180, x183, x186, x189, x192, x195, x198, x201, x204, x207, x210, x213, x216, x219, x222, x225, x228, x231, x234, x237, x240, x243, x246, x249, x252, x255, x258, x261, x264, x267, x270, x273, x276, x279, x282, x285, x288, x291] [x148, x151, x154, x157, x160, x163, x166, x169, x172, x175, x178, x181, x184, x187, x190, x193, x196, x199, x202, x205, x208, x211, x214, x217, x220, x223, x226, x229, x232, x235, x238, x241, x244, x247, x250, x253, x256, x259, x262, x265, x268, x271, x274, x277, x280, x283, x286, x289, x292] [x149, x152, x155, x158, x161, x164, x167, x170, x173, x176, x179, x182, x185, x188, x191, x194, x197, x200, x203, x206, x209, x212, x215, x218, x221, x224, x227, x230, x233, x236, x239, x242, x245, x248, x251, x254, x257, x260, x263, x266, x269, x272, x275, x278, x281, x284, x287, x290, x293] (7 : Nat) (0 : Nat))) (moreG (0 : Nat) (fun (_ _ : Nat) => (0 : Int)) (dfs [x0, x3, x6, x9, x12, x15, x18, x21, x24, x27, x30, x33, x36, x39, x42, x45, x48, x51, x54, x57, x60, x63, x66, x69, x72, x75, x78, x81, x84, x87, x90, x93, x96, x99, x102, x105, x108, x111, x114, x117, x120, x123, x126, x129, x132, x135, x138, x141, x144] [x1, x4, x7, x10, x13, x16, x19, x22, x25, x28, x31, x34, x37, x40, x43, x46, x49, x52, x55, x58, x61, x64, x67, x70, x73, x76, x79, x82, x85, x88, x91, x94, x97, x100, x103, x106, x109, x112, x115, x118, x121, x124, x127, x130, x133, x136, x139, x142, x145] [x2, x5, x8, x11, x14, x17, x20, x23, x26, x29, x32, x35, x38, x41, x44, x47, x50, x53, x56, x59, x62, x65, x68, x71, x74, x77, x80, x83, x86, x89, x92, x95, x98, x101, x104, x107, x110, x113, x116, x119, x122, x125, x128, x131, x134, x137, x140, x143, x146] [x147, x150, x153, x156, x159, x162, x165, x168, x171, x174, x177, x180, x183, x186, x189, x192, x195, x198, x201, x204, x207, x210, x213, x216, x219, x222, x225, x228, x231, x234, x237, x240, x243, x246, x249, x252, x255, x258, x261, x264, x267, x270, x273, x276, x279, x282, x285, x288, x291] [x148, x151, x154, x157, x160, x163, x166, x169, x172, x175, x178, x181, x184, x187, x190, x193, x196, x199, x202, x205, x208, x211, x214, x217, x220, x223, x226, x229, x232, x235, x238, x241, x244, x247, x250, x253, x256, x259, x262, x265, x268, x271, x274, x277, x280, x283, x286, x289, x292] [x149, x152, x155, x158, x161, x164, x167, x170, x173, x176, x179, x182, x185, x188, x191, x194, x197, x200, x203, x206, x209, x212, x215, x218, x221, x224, x227, x230, x233, x236, x239, x242, x245, x248, x251, x254, x257, x260, x263, x266, x269, x272, x275, x278, x281, x284, x287, x290, x293] (7 : Nat) (0 : Nat))))])
 (.no)
def y_rDiff : Nat → Option Nat := (syOf3 [] [] [])
def TL_rDiff (l : List At) : Tr (List At) := T_rDiff (aI l 0) (aI l 1) (aI l 2) (aI l 3) (aI l 4) (aI l 5) (aI l 6) (aI l 7) (aI l 8) (aI l 9) (aI l 10) (aI l 11) (aI l 12) (aI l 13) (aI l 14) (aI l 15) (aI l 16) (aI l 17) (aI l 18) (aI l 19) (aI l 20) (aI l 21) (aI l 22) (aI l 23) (aI l 24) (aI l 25) (aI l 26) (aI l 27) (aI l 28) (aI l 29) (aI l 30) (aI l 31) (aI l 32) (aI l 33) (aI l 34) (aI l 35) (aI l 36) (aI l 37) (aI l 38) (aI l 39) (aI l 40) (aI l 41) (aI l 42) (aI l 43) (aI l 44) (aI l 45) (aI l 46) (aI l 47) (aI l 48) (aI l 49) (aI l 50) (aI l 51) (aI l 52) (aI l 53) (aI l 54) (aI l 55) (aI l 56) (aI l 57) (aI l 58) (aI l 59) (aI l 60) (aI l 61) (aI l 62) (aI l 63) (aI l 64) (aI l 65) (aI l 66) (aI l 67) (aI l 68) (aI l 69) (aI l 70) (aI l 71) (aI l 72) (aI l 73) (aI l 74) (aI l 75) (aI l 76) (aI l 77) (aI l 78) (aI l 79) (aI l 80) (aI l 81) (aI l 82) (aI l 83) (aI l 84) (aI l 85) (aI l 86) (aI l 87) (aI l 88) (aI l 89) (aI l 90) (aI l 91) (aI l 92) (aI l 93) (aI l 94) (aI l 95) (aI l 96) (aI l 97) (aI l 98) (aI l 99) (aI l 100) (aI l 101) (aI l 102) (aI l 103) (aI l 104) (aI l 105) (aI l 106) (aI l 107) (aI l 108) (aI l 109) (aI l 110) (aI l 111) (aI l 112) (aI l 113) (aI l 114) (aI l 115) (aI l 116) (aI l 117) (aI l 118) (aI l 119) (aI l 120) (aI l 121) (aI l 122) (aI l 123) (aI l 124) (aI l 125) (aI l 126) (aI l 127) (aI l 128) (aI l 129) (aI l 130) (aI l 131) (aI l 132) (aI l 133) (aI l 134) (aI l 135) (aI l 136) (aI l 137) (aI l 138) (aI l 139) (aI l 140) (aI l 141) (aI l 142) (aI l 143) (aI l 144) (aI l 145) (aI l 146) (aI l 147) (aI l 148) (aI l 149) (aI l 150) (aI l 151) (aI l 152) (aI l 153) (aI l 154) (aI l 155) (aI l 156) (aI l 157) (aI l 158) (aI l 159) (aI l 160) (aI l 161) (aI l 162) (aI l 163) (aI l 164) (aI l 165) (aI l 166) (aI l 167) (aI l 168) (aI l 169) (aI l 170) (aI l 171) (aI l 172) (aI l 173) (aI l 174) (aI l 175) (aI l 176) (aI l 177) (aI l 178) (aI l 179) (aI l 180) (aI l 181) (aI l 182) (aI l 183) (aI l 184) (aI l 185) (aI l 186) (aI l 187) (aI l 188) (aI l 189) (aI l 190) (aI l 191) (aI l 192) (aI l 193) (aI l 194) (aI l 195) (aI l 196) (aI l 197) (aI l 198) (aI l 199) (aI l 200) (aI l 201) (aI l 202) (aI l 203) (aI l 204) (aI l 205) (aI l 206) (aI l 207) (aI l 208) (aI l 209) (aI l 210) (aI l 211) (aI l 212) (aI l 213) (aI l 214) (aI l 215) (aI l 216) (aI l 217) (aI l 218) (aI l 219) (aI l 220) (aI l 221) (aI l 222) (aI l 223) (aI l 224) (aI l 225) (aI l 226) (aI l 227) (aI l 228) (aI l 229) (aI l 230) (aI l 231) (aI l 232) (aI l 233) (aI l 234) (aI l 235) (aI l 236) (aI l 237) (aI l 238) (aI l 239) (aI l 240) (aI l 241) (aI l 242) (aI l 243) (aI l 244) (aI l 245) (aI l 246) (aI l 247) (aI l 248) (aI l 249) (aI l 250) (aI l 251) (aI l 252) (aI l 253) (aI l 254) (aI l 255) (aI l 256) (aI l 257) (aI l 258) (aI l 259) (aI l 260) (aI l 261) (aI l 262) (aI l 263) (aI l 264) (aI l 265) (aI l 266) (aI l 267) (aI l 268) (aI l 269) (aI l 270) (aI l 271) (aI l 272) (aI l 273) (aI l 274) (aI l 275) (aI l 276) (aI l 277) (aI l 278) (aI l 279) (aI l 280) (aI l 281) (aI l 282) (aI l 283) (aI l 284) (aI l 285) (aI l 286) (aI l 287) (aI l 288) (aI l 289) (aI l 290) (aI l 291) (aI l 292) (aI l 293)
theorem e_rDiff (l : List At) : (call Try.prog Γ_gDiff y_rDiff Lp_rDiff_3 100 Try.f20 (mkV ish_rDiff l) (mkH ish_rDiff l)).bind (leafO 0 osh_rDiff) = TL_rDiff l := by kernel_rfl
def F_rDiff : List At → Tr (List At) := TL_rDiff
theorem s_rDiff : SpecF Try.prog 20 (.eff (locF ish_rDiff osh_rDiff F_rDiff)) :=
  spec_loc (sy := y_rDiff) (fuel := 100) (Lp := Lp_rDiff_3) o_gDiff mixed ⟨Try.func20, by kernel_rfl, by kernel_rfl⟩ ish_rDiff osh_rDiff lk_rDiff_3 (hT_ways e_rDiff)
def Γ_rDiff : Specs := upd Γ_gDiff 20 (.eff (locF ish_rDiff osh_rDiff F_rDiff))
theorem o_rDiff : SpecOK Try.prog Γ_rDiff := SpecOK.upd o_gDiff s_rDiff

end Go.Proofs.Ytobikddlkoibjaa.G
end

/-
  The reference's list of the leaves that differ, in the code's words.
-/
section
namespace Go.Proofs.Ytobikddlkoibjaa.G
open Go Go.AM Go.Proofs

theorem h_rDiff : ∀ l r, (F2_Diff l).val = some r → ∃ r', ((call Try.prog Γ_gDiff y_rDiff Lp_rDiff_3 100 Try.f20 (mkV ish_rDiff l) (mkH ish_rDiff l)).bind (leafO 0 osh_rDiff)).val = some r' ∧ AtsEq r' r := by
  intro l r h
  have := val_ok h
  subst this
  rw [e_rDiff]
  refine ⟨_, br_t (g := 0) rfl, atsEq_cons (atEq_r (Nat.zero_add _) fun i _ c => ?_) atsEq_nil⟩
  unfold moreG
  rw [if_neg (Nat.not_lt_zero i), Nat.sub_zero]
  rfl
theorem s2_rDiff : SpecF Try.prog 20 (.eff (locF ish_rDiff osh_rDiff F2_Diff)) :=
  spec_loc (sy := y_rDiff) (fuel := 100) (Lp := Lp_rDiff_3) o_gDiff mixed ⟨Try.func20, by kernel_rfl, by kernel_rfl⟩ ish_rDiff osh_rDiff lk_rDiff_3 h_rDiff
def Γ_SQ : Specs := (upd (upd Γ_SZ 19 (.eff (locF ish_gDiff osh_gDiff F2_Diff))) 20 (.eff (locF ish_rDiff osh_rDiff F2_Diff)))
theorem o_SQ : SpecOK Try.prog Γ_SQ := (SpecOK.upd (SpecOK.upd o_SZ s2_gDiff) s2_rDiff)
end Go.Proofs.Ytobikddlkoibjaa.G
end

/-
  What functions of the seat compute, printed by a program from the explorer.
-/
section
namespace Go.Proofs.Ytobikddlkoibjaa.G
open Go Go.AM Go.Proofs
/-! ### shown -/

def ish_shown : FSh := ⟨[], []⟩
def osh_shown : FSh := ⟨[.v false [.k .b]], []⟩
def T_shown  : Tr (List At) :=
 .br 0 (true)
 (.br 0 (true)
 (.ok [(.b (true))])
 (.no))
 (.no)
def y_shown : Nat → Option Nat := (syOf3 [] [] [])
def TL_shown (l : List At) : Tr (List At) := T_shown 
theorem e_shown (l : List At) : (call Try.prog Γ_SQ y_shown noLoops 100 Try.f10 (mkV ish_shown l) (mkH ish_shown l)).bind (leafO 0 osh_shown) = TL_shown l := by kernel_rfl
def F_shown : List At → Tr (List At) := TL_shown
theorem s_shown : SpecF Try.prog 10 (.eff (locF ish_shown osh_shown F_shown)) :=
  spec_loc (sy := y_shown) (fuel := 100) (Lp := noLoops) o_SQ mixed ⟨Try.func10, by kernel_rfl, by kernel_rfl⟩ ish_shown osh_shown (noLoops_ok _) (hT_ways e_shown)
def Γ_shown : Specs := upd Γ_SQ 10 (.eff (locF ish_shown osh_shown F_shown))
theorem o_shown : SpecOK Try.prog Γ_shown := SpecOK.upd o_SQ s_shown

end Go.Proofs.Ytobikddlkoibjaa.G
end
