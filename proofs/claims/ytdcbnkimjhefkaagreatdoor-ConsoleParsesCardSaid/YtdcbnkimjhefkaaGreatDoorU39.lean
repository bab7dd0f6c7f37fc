/-
 What each function leads to and names; the closure of a function by tables.
-/
import Derived.Test.YtdcbnkimjhefkaaGreatDoorU27
import GoSem.ClaimGoes
namespace Go.Proofs.YtdcbnkimjhefkaaGreatDoor
open Go
set_option maxRecDepth 100000
def leads (P : Program) (g : Nat) : List Nat := (P.funcs[g]?).elim [] P.leadsTo
def clo (T : Nat → List Nat) : Nat → List Nat → Nat → List Nat → Option (List Nat)
 | _, [], _, seen => some seen.reverse
 | 0, _ :: _, _, _ => none
 | n + 1, f :: todo, m, seen => if m.testBit f then clo T n todo m seen else clo T n (T f ++ todo) (m ||| 2 ^ f) (f :: seen)
def Mask (m : Nat) (seen : List Nat) : Prop := ∀ g, m.testBit g = seen.contains g
theorem mask_nil : Mask 0 [] := fun g => by simp
theorem mask_cons {m : Nat} {seen : List Nat} (h : Mask m seen) (f : Nat) : Mask (m ||| 2 ^ f) (f :: seen) := fun g => by
 rw [Nat.testBit_or, h g, Nat.testBit_two_pow, List.contains_cons, Bool.or_comm]
 congr 1
 by_cases e : g = f
 ·subst e; simp
 ·simp [e, Ne.symm e]
theorem clo_via {P : Program} : ∀ (n : Nat) (todo : List Nat) (m : Nat) (seen L : List Nat), Mask m seen → clo (leads P) n todo m seen = some L → P.closureVia n todo seen = L
 | 0, [], m, seen, L, _, h => by simpa [clo, Program.closureVia] using h
 | 0, _ :: _, m, seen, L, _, h => by simp [clo] at h
 | n + 1, [], m, seen, L, _, h => by simpa [clo, Program.closureVia] using h
 | n + 1, f :: todo, m, seen, L, hm, h => by
  simp only [clo] at h
  simp only [Program.closureVia]
  rw [hm f] at h
  split at h
  ·rename_i hc
   rw [if_pos hc]
   exact clo_via n _ m _ _ hm h
  ·rename_i hc
   rw [if_neg hc]
   exact clo_via n _ _ _ _ (mask_cons hm f) h
theorem clo_more {T : Nat → List Nat} (k : Nat) : ∀ (n : Nat) (todo : List Nat) (m : Nat) (seen L : List Nat), clo T n todo m seen = some L → clo T (n + k) todo m seen = some L
 | 0, [], m, seen, L, h => by cases k <;> simpa [clo] using h
 | 0, _ :: _, m, seen, L, h => by simp [clo] at h
 | n + 1, [], m, seen, L, h => by rw [Nat.succ_add]; simpa [clo] using h
 | n + 1, f :: todo, m, seen, L, h => by
  rw [Nat.succ_add]
  simp only [clo] at h ⊢
  split at h
  ·rename_i hc
   rw [if_pos hc]
   exact clo_more k n _ _ _ _ h
  ·rename_i hc
   rw [if_neg hc]
   exact clo_more k n _ _ _ _ h
def wt (T : Nat → List Nat) (m i : Nat) : Nat := if m.testBit i then 0 else (T i).length + 1
def pot (T : Nat → List Nat) (sz m : Nat) : Nat := ((List.range sz).map (wt T m)).sum
theorem wt_or (T : Nat → List Nat) (m f i : Nat) : wt T (m ||| 2 ^ f) i ≤ wt T m i := by
 unfold wt
 rw [Nat.testBit_or]
 cases m.testBit i
 ·rw [Bool.false_or]
  cases (2 ^ f).testBit i
  ·exact Nat.le_refl _
  ·exact Nat.zero_le _
 ·exact Nat.zero_le _
theorem wt_self (T : Nat → List Nat) (m f : Nat) : wt T (m ||| 2 ^ f) f = 0 := by
 unfold wt
 rw [Nat.testBit_or, Nat.testBit_two_pow_self, Bool.or_true]
 rfl
theorem pot_le (T : Nat → List Nat) (m f : Nat) : ∀ xs : List Nat, (xs.map (wt T (m ||| 2 ^ f))).sum ≤ (xs.map (wt T m)).sum
 | [] => Nat.le_refl _
 | x :: xs => by
  have ih := pot_le T m f xs
  have := wt_or T m f x
  simp only [List.map_cons, List.sum_cons]
  omega
theorem pot_cut (T : Nat → List Nat) (m f : Nat) (hf : m.testBit f = false) : ∀ xs : List Nat, f ∈ xs → (xs.map (wt T (m ||| 2 ^ f))).sum + ((T f).length + 1) ≤ (xs.map (wt T m)).sum
 | x :: xs, h => by
  simp only [List.map_cons, List.sum_cons]
  by_cases e : x = f
  ·subst e
   have h1 := pot_le T m x xs
   have h2 : wt T m x = (T x).length + 1 := by unfold wt; rw [hf]; rfl
   rw [wt_self, h2]
   omega
  ·have hm : f ∈ xs := by
    rcases List.mem_cons.1 h with h1 | h1
    ·exact absurd h1.symm e
    ·exact h1
   have ih := pot_cut T m f hf xs hm
   have := wt_or T m f x
   omega
theorem clo_enough {T : Nat → List Nat} {sz : Nat} (hT : ∀ g, sz ≤ g → T g = []) : ∀ (n : Nat) (todo : List Nat) (m : Nat) (seen : List Nat), todo.length + pot T sz m ≤ n → ∃ L, clo T n todo m seen = some L
 | 0, [], m, seen, _ => ⟨_, by rw [clo]⟩
 | 0, _ :: _, m, seen, h => by simp at h
 | n + 1, [], m, seen, _ => ⟨_, by rw [clo]⟩
 | n + 1, f :: todo, m, seen, h => by
  simp only [clo]
  simp only [List.length_cons] at h
  split
  ·exact clo_enough hT n _ _ _ (by omega)
  ·rename_i hc
   refine clo_enough hT n _ _ _ ?_
   rw [List.length_append]
   by_cases hf : f < sz
   ·have := pot_cut T m f (by simpa using hc) (List.range sz) (List.mem_range.2 hf)
    unfold pot at h ⊢
    omega
   ·have := pot_le T m f (List.range sz)
    rw [hT f (by omega)]
    unfold pot at h ⊢
    simp only [List.length_nil]
    omega
theorem real_fuel (P : Program) : (P.funcs.toList.map fun g => (P.leadsTo g).length + 1).sum = pot (leads P) P.funcs.size 0 := by
 unfold pot
 congr 1
 apply List.ext_getElem
 ·simp
 ·intro i h1 h2
  have hi : i < P.funcs.size := by simpa using h1
  simp [wt, leads, hi]
theorem closure_eq {P : Program} {f : Nat} {L : List Nat} (n : Nat) (h : clo (leads P) n [f] 0 [] = some L) : P.closure f = L := by
 unfold Program.closure
 rw [real_fuel]
 obtain ⟨L', h'⟩ := clo_enough (T := leads P) (sz := P.funcs.size) (fun g hg => by simp [leads, hg]) (1 + pot (leads P) P.funcs.size 0) [f] 0 [] (by simp)
 have e1 := clo_more (1 + pot (leads P) P.funcs.size 0) n _ _ _ _ h
 have e2 := clo_more n _ _ _ _ _ h'
 rw [Nat.add_comm] at e2
 rw [e1] at e2
 cases e2
 exact clo_via _ _ _ _ _ mask_nil h'
def ldT (g : Nat) : List Nat := bif Nat.blt g 688 then (bif Nat.blt g 344 then (bif Nat.blt g 172 then (bif Nat.blt g 86 then (bif Nat.blt g 43 then (bif Nat.blt g 21 then (bif Nat.blt g 10 then (bif Nat.blt g 5 then (bif Nat.blt g 2 then [] else (bif Nat.blt g 3 then [1] else (bif Nat.blt g 4 then [8, 9, 10, 11, 12] else [12, 13, 15, 14, 16, 17, 18, 19, 12]))) else (bif Nat.blt g 7 then (bif Nat.blt g 6 then [20, 12, 13, 15, 10, 10, 10, 21, 14, 21, 14, 12] else [13, 15, 21, 17, 19, 16, 17, 12, 21, 12]) else (bif Nat.blt g 8 then [10, 17, 12, 21, 21, 22, 12] else (bif Nat.blt g 9 then [23, 23] else [])))) else (bif Nat.blt g 15 then (bif Nat.blt g 12 then (bif Nat.blt g 11 then [] else [24, 25, 26, 27]) else (bif Nat.blt g 13 then [28, 28] else (bif Nat.blt g 14 then [] else [29]))) else (bif Nat.blt g 18 then (bif Nat.blt g 16 then [30, 31, 32, 33, 34] else (bif Nat.blt g 17 then [32, 32, 32, 32] else [35, 36, 35, 37, 38])) else (bif Nat.blt g 19 then [39, 40, 41, 42] else [])))) else (bif Nat.blt g 32 then (bif Nat.blt g 26 then (bif Nat.blt g 23 then (bif Nat.blt g 22 then [43, 44, 38] else []) else (bif Nat.blt g 24 then [] else (bif Nat.blt g 25 then [45] else [45]))) else (bif Nat.blt g 29 then (bif Nat.blt g 27 then [46, 47, 48, 48] else (bif Nat.blt g 28 then [49, 49, 49, 49] else [17, 8, 50, 51, 37, 52, 51, 37, 37, 53, 38])) else (bif Nat.blt g 30 then [54, 55, 56, 56, 56, 55, 55, 55] else (bif Nat.blt g 31 then [58, 32, 57, 32, 59, 57, 59, 57] else [])))) else (bif Nat.blt g 37 then (bif Nat.blt g 34 then (bif Nat.blt g 33 then [] else [59, 59, 59]) else (bif Nat.blt g 35 then [32, 60, 57, 32] else (bif Nat.blt g 36 then [61] else [62, 64, 63, 65, 45, 67]))) else (bif Nat.blt g 40 then (bif Nat.blt g 38 then [68] else []) else (bif Nat.blt g 41 then [] else (bif Nat.blt g 42 then [69, 70, 71, 72, 42] else [71])))))) else (bif Nat.blt g 64 then (bif Nat.blt g 53 then (bif Nat.blt g 48 then (bif Nat.blt g 45 then (bif Nat.blt g 44 then [73, 63, 37, 74, 45, 37, 75, 37, 67, 51, 37, 67, 74, 76, 37] else []) else (bif Nat.blt g 46 then [77, 78] else (bif Nat.blt g 47 then [48] else []))) else (bif Nat.blt g 50 then [] else (bif Nat.blt g 51 then [79, 11, 80, 81, 82, 83, 84] else (bif Nat.blt g 52 then [85] else [86, 87, 88, 89, 91, 90, 92, 93, 94])))) else (bif Nat.blt g 58 then (bif Nat.blt g 55 then (bif Nat.blt g 54 then [95, 96, 98, 97, 99, 100, 51, 37, 101, 102, 103, 74, 105, 104, 74, 106, 107, 51, 37] else [39, 56, 55, 69, 70, 108, 56, 72, 55]) else (bif Nat.blt g 56 then [109] else [])) else (bif Nat.blt g 61 then (bif Nat.blt g 59 then [] else (bif Nat.blt g 60 then [32] else [32, 110, 32, 59, 59, 58, 32, 32, 32, 32, 59, 59, 32, 32, 59, 59, 32])) else (bif Nat.blt g 62 then [111] else (bif Nat.blt g 63 then [112] else []))))) else (bif Nat.blt g 75 then (bif Nat.blt g 69 then (bif Nat.blt g 66 then (bif Nat.blt g 65 then [] else [66, 51]) else (bif Nat.blt g 67 then [113, 114] else (bif Nat.blt g 68 then [] else [115]))) else (bif Nat.blt g 72 then (bif Nat.blt g 70 then [] else (bif Nat.blt g 71 then [116, 117] else [])) else (bif Nat.blt g 73 then [] else (bif Nat.blt g 74 then [] else [68])))) else (bif Nat.blt g 80 then (bif Nat.blt g 77 then (bif Nat.blt g 76 then [118] else [119, 120, 121]) else (bif Nat.blt g 78 then [122, 122, 123] else [])) else (bif Nat.blt g 83 then (bif Nat.blt g 81 then [] else (bif Nat.blt g 82 then [124, 125, 126, 127, 128] else [])) else (bif Nat.blt g 84 then [] else (bif Nat.blt g 85 then [] else [129]))))))) else (bif Nat.blt g 129 then (bif Nat.blt g 107 then (bif Nat.blt g 96 then (bif Nat.blt g 91 then (bif Nat.blt g 88 then [] else (bif Nat.blt g 89 then [130, 131, 132, 133, 134] else (bif Nat.blt g 90 then [135] else [136]))) else (bif Nat.blt g 93 then (bif Nat.blt g 92 then [137, 137, 137] else []) else (bif Nat.blt g 94 then [138, 139] else (bif Nat.blt g 95 then [141, 140, 142, 143, 88, 93] else [51, 51, 37])))) else (bif Nat.blt g 101 then (bif Nat.blt g 98 then (bif Nat.blt g 97 then [86, 144] else [145, 146]) else (bif Nat.blt g 99 then [147] else (bif Nat.blt g 100 then [86, 148] else [86, 149, 148]))) else (bif Nat.blt g 104 then (bif Nat.blt g 102 then [86, 150] else (bif Nat.blt g 103 then [151, 97] else [152])) else (bif Nat.blt g 105 then [153, 154] else (bif Nat.blt g 106 then [86, 155, 156, 154] else [86, 157]))))) else (bif Nat.blt g 118 then (bif Nat.blt g 112 then (bif Nat.blt g 109 then [] else (bif Nat.blt g 110 then [] else (bif Nat.blt g 111 then [32, 59] else [158, 159, 158, 160, 159, 161]))) else (bif Nat.blt g 115 then (bif Nat.blt g 113 then [162, 163, 164] else (bif Nat.blt g 114 then [165] else [166, 167, 168, 169])) else (bif Nat.blt g 116 then [] else (bif Nat.blt g 117 then [170, 170, 171] else [])))) else (bif Nat.blt g 123 then (bif Nat.blt g 120 then (bif Nat.blt g 119 then [172, 173, 174, 175] else [176]) else (bif Nat.blt g 121 then [177] else (bif Nat.blt g 122 then [164] else []))) else []))) else (bif Nat.blt g 150 then (bif Nat.blt g 139 then (bif Nat.blt g 134 then (bif Nat.blt g 131 then (bif Nat.blt g 130 then [172, 173, 174, 175] else [178, 179]) else (bif Nat.blt g 132 then [180, 181, 182, 183, 184, 185, 186, 186] else (bif Nat.blt g 133 then [187, 186] else [180, 188, 189, 190, 191, 192, 186]))) else (bif Nat.blt g 136 then (bif Nat.blt g 135 then [193, 187, 186] else []) else (bif Nat.blt g 137 then [] else (bif Nat.blt g 138 then [] else [194])))) else (bif Nat.blt g 144 then (bif Nat.blt g 141 then (bif Nat.blt g 140 then [195] else [196, 197, 197, 198]) else (bif Nat.blt g 142 then [199] else (bif Nat.blt g 143 then [197, 198] else [200, 200, 201, 201, 200]))) else (bif Nat.blt g 147 then (bif Nat.blt g 145 then [] else (bif Nat.blt g 146 then [202] else [204, 203])) else (bif Nat.blt g 148 then [] else (bif Nat.blt g 149 then [] else [205]))))) else (bif Nat.blt g 161 then (bif Nat.blt g 155 then (bif Nat.blt g 152 then (bif Nat.blt g 151 then [84, 152] else [206]) else (bif Nat.blt g 153 then [207] else (bif Nat.blt g 154 then [] else [208, 209, 210, 211]))) else (bif Nat.blt g 158 then (bif Nat.blt g 156 then [24, 205, 212, 154] else (bif Nat.blt g 157 then [185] else [83, 213])) else (bif Nat.blt g 159 then [214] else []))) else (bif Nat.blt g 166 then (bif Nat.blt g 163 then (bif Nat.blt g 162 then [215] else [216, 217]) else (bif Nat.blt g 164 then [216, 218, 164] else (bif Nat.blt g 165 then [111] else [219]))) else (bif Nat.blt g 169 then (bif Nat.blt g 167 then [220] else (bif Nat.blt g 168 then [220] else [220, 51, 221])) else (bif Nat.blt g 170 then [220, 51, 221] else []))))))) else (bif Nat.blt g 258 then (bif Nat.blt g 215 then (bif Nat.blt g 193 then (bif Nat.blt g 182 then (bif Nat.blt g 177 then (bif Nat.blt g 174 then (bif Nat.blt g 173 then [] else [223, 222, 224]) else (bif Nat.blt g 175 then [] else (bif Nat.blt g 176 then [225, 226] else []))) else (bif Nat.blt g 179 then (bif Nat.blt g 178 then [] else [227, 45, 227, 45, 227, 228, 227, 227, 45, 227, 227, 227, 227]) else (bif Nat.blt g 180 then [] else (bif Nat.blt g 181 then [79, 229, 230, 230, 231] else [232, 180])))) else (bif Nat.blt g 187 then (bif Nat.blt g 184 then (bif Nat.blt g 183 then [98, 97] else [233, 233, 234, 235]) else (bif Nat.blt g 185 then [236, 237, 239, 238, 149, 148, 240] else (bif Nat.blt g 186 then [] else [241]))) else (bif Nat.blt g 190 then (bif Nat.blt g 188 then [205, 242, 243] else (bif Nat.blt g 189 then [244, 185, 245, 245, 245, 245, 38] else [246, 205, 247, 97, 249, 248])) else (bif Nat.blt g 191 then [250, 51, 51, 37, 251, 37, 37, 51, 37, 37, 38] else [])))) else (bif Nat.blt g 204 then (bif Nat.blt g 198 then (bif Nat.blt g 195 then (bif Nat.blt g 194 then [205] else [252, 244, 253]) else (bif Nat.blt g 196 then [254, 250] else (bif Nat.blt g 197 then [197, 198, 255, 198, 136, 136] else []))) else (bif Nat.blt g 201 then (bif Nat.blt g 199 then [] else (bif Nat.blt g 200 then [] else [256])) else (bif Nat.blt g 202 then [200, 256] else (bif Nat.blt g 203 then [] else [257, 258, 259, 260, 261, 262, 263, 264, 265, 203, 203])))) else (bif Nat.blt g 209 then (bif Nat.blt g 206 then (bif Nat.blt g 205 then [266, 223] else [243, 242]) else (bif Nat.blt g 207 then [] else (bif Nat.blt g 208 then [] else [209]))) else (bif Nat.blt g 212 then (bif Nat.blt g 210 then [] else (bif Nat.blt g 211 then [204, 267] else [269, 269, 268])) else (bif Nat.blt g 213 then [270, 271] else (bif Nat.blt g 214 then [272] else [])))))) else (bif Nat.blt g 236 then (bif Nat.blt g 225 then (bif Nat.blt g 220 then (bif Nat.blt g 217 then [] else (bif Nat.blt g 218 then [273] else (bif Nat.blt g 219 then [] else [274, 274, 274, 274, 274, 274, 275]))) else []) else (bif Nat.blt g 230 then (bif Nat.blt g 227 then (bif Nat.blt g 226 then [] else [276, 277]) else (bif Nat.blt g 228 then [] else (bif Nat.blt g 229 then [278, 279] else [79, 280]))) else (bif Nat.blt g 233 then (bif Nat.blt g 231 then [281, 282] else []) else (bif Nat.blt g 234 then [283] else (bif Nat.blt g 235 then [284, 227] else [237, 286, 287, 288, 290, 289]))))) else (bif Nat.blt g 247 then (bif Nat.blt g 241 then (bif Nat.blt g 238 then (bif Nat.blt g 237 then [288, 291] else [285]) else (bif Nat.blt g 239 then [292, 293] else (bif Nat.blt g 240 then [285] else [294, 294, 294, 294, 295]))) else (bif Nat.blt g 244 then (bif Nat.blt g 242 then [296, 297, 298, 299, 300, 301] else (bif Nat.blt g 243 then [302] else [])) else (bif Nat.blt g 245 then [] else (bif Nat.blt g 246 then [74, 37, 51, 37, 74] else [303, 304])))) else (bif Nat.blt g 252 then (bif Nat.blt g 249 then (bif Nat.blt g 248 then [305] else [306, 304, 207]) else (bif Nat.blt g 250 then [307, 308] else (bif Nat.blt g 251 then [251, 309, 310] else []))) else (bif Nat.blt g 255 then (bif Nat.blt g 253 then [311, 62, 312, 312, 312] else (bif Nat.blt g 254 then [185] else [311, 62, 313, 314])) else (bif Nat.blt g 256 then [] else (bif Nat.blt g 257 then [] else [263]))))))) else (bif Nat.blt g 301 then (bif Nat.blt g 279 then (bif Nat.blt g 268 then (bif Nat.blt g 263 then (bif Nat.blt g 260 then (bif Nat.blt g 259 then [315, 315] else [316, 317]) else (bif Nat.blt g 261 then [318, 318, 318, 319] else (bif Nat.blt g 262 then [] else [263, 263, 263]))) else (bif Nat.blt g 265 then (bif Nat.blt g 264 then [320, 320] else [263, 263]) else (bif Nat.blt g 266 then [263, 263, 263, 263] else (bif Nat.blt g 267 then [] else [321, 322, 323, 324, 325, 326, 327, 328, 267, 267])))) else (bif Nat.blt g 273 then (bif Nat.blt g 270 then (bif Nat.blt g 269 then [] else [320, 320]) else []) else (bif Nat.blt g 276 then (bif Nat.blt g 274 then [] else (bif Nat.blt g 275 then [] else [274, 274, 274, 274, 274, 274])) else (bif Nat.blt g 277 then [] else (bif Nat.blt g 278 then [] else [329, 330, 331]))))) else (bif Nat.blt g 290 then (bif Nat.blt g 284 then (bif Nat.blt g 281 then (bif Nat.blt g 280 then [332, 333, 335, 334, 337, 338] else [339, 339, 340, 231]) else (bif Nat.blt g 282 then [341] else (bif Nat.blt g 283 then [342] else [204, 343]))) else (bif Nat.blt g 287 then (bif Nat.blt g 285 then [285] else (bif Nat.blt g 286 then [] else [344, 345, 346, 347, 271])) else (bif Nat.blt g 288 then [180, 340, 348, 349] else (bif Nat.blt g 289 then [350] else [351, 352, 353, 354, 355, 356, 357, 358])))) else (bif Nat.blt g 295 then (bif Nat.blt g 292 then (bif Nat.blt g 291 then [239, 285, 285] else [359, 294, 294, 294]) else (bif Nat.blt g 293 then [27, 49] else (bif Nat.blt g 294 then [360, 361] else []))) else (bif Nat.blt g 298 then (bif Nat.blt g 296 then [293] else (bif Nat.blt g 297 then [299, 299, 300] else [])) else (bif Nat.blt g 299 then [] else (bif Nat.blt g 300 then [] else [362])))))) else (bif Nat.blt g 322 then (bif Nat.blt g 311 then (bif Nat.blt g 306 then (bif Nat.blt g 303 then (bif Nat.blt g 302 then [] else [309]) else (bif Nat.blt g 304 then [308, 309, 363] else [])) else (bif Nat.blt g 308 then (bif Nat.blt g 307 then [364, 207] else [366, 365]) else (bif Nat.blt g 309 then [] else (bif Nat.blt g 310 then [367] else [269, 368, 268])))) else (bif Nat.blt g 316 then (bif Nat.blt g 313 then (bif Nat.blt g 312 then [369] else [62, 66, 51]) else (bif Nat.blt g 314 then [62, 370, 370] else (bif Nat.blt g 315 then [62, 370, 370, 370] else [263, 263]))) else (bif Nat.blt g 319 then (bif Nat.blt g 317 then [204] else (bif Nat.blt g 318 then [] else [319])) else (bif Nat.blt g 320 then [371, 371, 371] else [])))) else (bif Nat.blt g 333 then (bif Nat.blt g 327 then (bif Nat.blt g 324 then (bif Nat.blt g 323 then [372, 372] else [316, 317]) else (bif Nat.blt g 325 then [373, 373, 373, 374] else [])) else (bif Nat.blt g 330 then (bif Nat.blt g 328 then [] else (bif Nat.blt g 329 then [] else [375])) else (bif Nat.blt g 331 then [376, 377, 376, 378] else (bif Nat.blt g 332 then [331] else [45, 45, 379])))) else (bif Nat.blt g 338 then (bif Nat.blt g 335 then (bif Nat.blt g 334 then [] else [380]) else (bif Nat.blt g 336 then [336] else (bif Nat.blt g 337 then [381, 381] else [382, 380, 381, 383]))) else (bif Nat.blt g 341 then (bif Nat.blt g 339 then [384, 381, 383] else (bif Nat.blt g 340 then [340] else [385, 386, 387, 342, 342])) else (bif Nat.blt g 342 then [387, 342] else (bif Nat.blt g 343 then [388] else [389, 390, 391, 392, 393, 394, 395, 396, 397, 343, 343]))))))))) else (bif Nat.blt g 516 then (bif Nat.blt g 430 then (bif Nat.blt g 387 then (bif Nat.blt g 365 then (bif Nat.blt g 354 then (bif Nat.blt g 349 then (bif Nat.blt g 346 then (bif Nat.blt g 345 then [285, 278, 398] else [400, 399, 285, 399, 401]) else (bif Nat.blt g 347 then [402, 403, 404] else (bif Nat.blt g 348 then [] else [342, 341]))) else (bif Nat.blt g 351 then (bif Nat.blt g 350 then [79, 280] else [405, 365]) else (bif Nat.blt g 352 then [11, 406, 407, 408] else (bif Nat.blt g 353 then [409, 410, 271, 411] else [412, 413])))) else (bif Nat.blt g 359 then (bif Nat.blt g 356 then (bif Nat.blt g 355 then [414, 411, 411] else [415, 411]) else (bif Nat.blt g 357 then [416, 413] else (bif Nat.blt g 358 then [417, 412, 413] else [417, 411, 411, 418, 419, 301]))) else (bif Nat.blt g 362 then (bif Nat.blt g 360 then [420, 420, 421] else (bif Nat.blt g 361 then [] else [269, 422])) else (bif Nat.blt g 363 then [423, 423, 423] else (bif Nat.blt g 364 then [269, 368, 268] else [424]))))) else (bif Nat.blt g 376 then (bif Nat.blt g 370 then (bif Nat.blt g 367 then (bif Nat.blt g 366 then [205, 420] else []) else (bif Nat.blt g 368 then [425, 426, 45] else (bif Nat.blt g 369 then [427] else [176]))) else (bif Nat.blt g 373 then (bif Nat.blt g 371 then [66, 51] else (bif Nat.blt g 372 then [263] else [])) else (bif Nat.blt g 374 then [374] else (bif Nat.blt g 375 then [428, 428, 428] else [429, 430, 429])))) else (bif Nat.blt g 381 then (bif Nat.blt g 378 then (bif Nat.blt g 377 then [431, 433, 432] else [434, 435, 433, 432]) else (bif Nat.blt g 379 then [433, 431, 431, 431, 431, 431, 432, 432, 377, 376, 436, 376, 437, 376, 438, 376, 439, 440, 440, 376, 441, 376, 442, 376] else (bif Nat.blt g 380 then [443, 444, 444, 444, 445, 446, 444, 445, 447, 445, 447, 448, 449, 450] else []))) else (bif Nat.blt g 384 then [] else (bif Nat.blt g 385 then [447, 451] else (bif Nat.blt g 386 then [] else [387])))))) else (bif Nat.blt g 408 then (bif Nat.blt g 397 then (bif Nat.blt g 392 then (bif Nat.blt g 389 then (bif Nat.blt g 388 then [452, 452] else []) else (bif Nat.blt g 390 then [395] else (bif Nat.blt g 391 then [453, 453] else [316, 317]))) else (bif Nat.blt g 394 then (bif Nat.blt g 393 then [454, 454, 454, 455] else []) else (bif Nat.blt g 395 then [395, 395, 395] else (bif Nat.blt g 396 then [456, 456] else [395, 395])))) else (bif Nat.blt g 402 then (bif Nat.blt g 399 then (bif Nat.blt g 398 then [395, 395, 395, 395] else [332, 279, 457, 458, 459, 460]) else (bif Nat.blt g 400 then [462, 462, 461] else (bif Nat.blt g 401 then [227] else [463, 463, 399]))) else (bif Nat.blt g 405 then (bif Nat.blt g 403 then [464, 465, 466, 467, 468] else (bif Nat.blt g 404 then [469, 470, 469] else [463, 463, 360, 361, 399])) else (bif Nat.blt g 406 then [] else (bif Nat.blt g 407 then [471, 472, 473, 473] else [473, 474]))))) else (bif Nat.blt g 419 then (bif Nat.blt g 413 then (bif Nat.blt g 410 then (bif Nat.blt g 409 then [474] else [24, 410, 271, 475]) else (bif Nat.blt g 411 then [45, 475, 476] else (bif Nat.blt g 412 then [] else [477]))) else (bif Nat.blt g 416 then (bif Nat.blt g 414 then [411] else (bif Nat.blt g 415 then [25, 478, 479, 480] else [26, 48, 481, 482, 483, 484])) else (bif Nat.blt g 417 then [27, 472, 238, 485, 486, 486] else (bif Nat.blt g 418 then [474, 45, 487, 488] else [204, 489])))) else (bif Nat.blt g 424 then (bif Nat.blt g 421 then (bif Nat.blt g 420 then [269, 490, 268] else [367, 421]) else (bif Nat.blt g 422 then [425, 418, 491] else [])) else (bif Nat.blt g 427 then [] else (bif Nat.blt g 428 then [492] else [])))))) else (bif Nat.blt g 473 then (bif Nat.blt g 451 then (bif Nat.blt g 440 then (bif Nat.blt g 435 then (bif Nat.blt g 432 then (bif Nat.blt g 431 then [493, 494, 123, 495, 122, 77, 78, 45, 496] else [434]) else []) else (bif Nat.blt g 437 then (bif Nat.blt g 436 then [45] else [431, 437]) else (bif Nat.blt g 438 then [497, 431, 431, 433, 432] else (bif Nat.blt g 439 then [434, 433, 432] else [433, 498, 432, 432, 376, 499, 431])))) else (bif Nat.blt g 445 then (bif Nat.blt g 442 then (bif Nat.blt g 441 then [431, 500, 440, 376, 440, 376, 440, 501] else [434, 502, 433, 432]) else (bif Nat.blt g 443 then [433, 499, 450, 432] else (bif Nat.blt g 444 then [] else [503]))) else (bif Nat.blt g 448 then (bif Nat.blt g 446 then [] else (bif Nat.blt g 447 then [504] else [505])) else (bif Nat.blt g 449 then [] else (bif Nat.blt g 450 then [504] else []))))) else (bif Nat.blt g 462 then (bif Nat.blt g 456 then (bif Nat.blt g 453 then (bif Nat.blt g 452 then [451, 506, 506, 506, 507, 508, 509, 508, 510, 509, 508, 511, 508, 512, 508, 512, 508, 513, 508, 512, 511, 508, 507, 508] else []) else (bif Nat.blt g 454 then [395, 395] else (bif Nat.blt g 455 then [455] else [514, 514, 514]))) else (bif Nat.blt g 459 then (bif Nat.blt g 457 then [] else (bif Nat.blt g 458 then [515, 516] else [517, 459, 459, 518, 459])) else (bif Nat.blt g 460 then [] else (bif Nat.blt g 461 then [519, 460, 520] else [521])))) else (bif Nat.blt g 467 then (bif Nat.blt g 464 then (bif Nat.blt g 463 then [] else [462, 521]) else (bif Nat.blt g 465 then [463] else (bif Nat.blt g 466 then [522, 523] else [463, 523, 522]))) else (bif Nat.blt g 470 then (bif Nat.blt g 468 then [524, 524, 524, 524] else (bif Nat.blt g 469 then [525, 526] else [])) else (bif Nat.blt g 471 then [527, 528, 529, 469, 530, 531, 532, 404, 469, 533] else (bif Nat.blt g 472 then [45] else [45, 49, 49])))))) else (bif Nat.blt g 494 then (bif Nat.blt g 483 then (bif Nat.blt g 478 then (bif Nat.blt g 475 then (bif Nat.blt g 474 then [] else [45]) else (bif Nat.blt g 476 then [] else (bif Nat.blt g 477 then [475, 487, 534] else [471, 474, 535, 536, 537, 539, 538, 487, 488]))) else (bif Nat.blt g 480 then (bif Nat.blt g 479 then [540, 540] else [542, 541, 542, 541, 543, 543]) else (bif Nat.blt g 481 then [543, 543, 544, 543] else (bif Nat.blt g 482 then [] else [46, 48])))) else (bif Nat.blt g 488 then (bif Nat.blt g 485 then (bif Nat.blt g 484 then [26, 48, 545] else [546, 481]) else (bif Nat.blt g 486 then [292] else (bif Nat.blt g 487 then [301, 548, 547, 549, 544] else [204, 550]))) else (bif Nat.blt g 491 then (bif Nat.blt g 489 then [490] else (bif Nat.blt g 490 then [551, 552, 553, 554, 555, 556, 557, 558, 489, 489] else [456, 456])) else (bif Nat.blt g 492 then [269, 490, 268] else (bif Nat.blt g 493 then [] else [123]))))) else (bif Nat.blt g 505 then (bif Nat.blt g 499 then (bif Nat.blt g 496 then (bif Nat.blt g 495 then [559, 559, 559, 348] else [560, 123, 560, 122, 399]) else (bif Nat.blt g 497 then [561] else (bif Nat.blt g 498 then [562, 433, 432] else [434, 433, 432]))) else (bif Nat.blt g 502 then (bif Nat.blt g 500 then [434, 433, 432] else (bif Nat.blt g 501 then [563, 431, 563, 501] else [])) else (bif Nat.blt g 503 then [] else (bif Nat.blt g 504 then [564, 564, 564] else [463])))) else (bif Nat.blt g 510 then (bif Nat.blt g 507 then (bif Nat.blt g 506 then [565, 566, 505] else []) else (bif Nat.blt g 508 then [] else (bif Nat.blt g 509 then [] else [507]))) else (bif Nat.blt g 513 then (bif Nat.blt g 511 then [513, 567, 568] else (bif Nat.blt g 512 then [509] else [])) else (bif Nat.blt g 514 then [] else (bif Nat.blt g 515 then [395] else [569, 570, 571, 572])))))))) else (bif Nat.blt g 602 then (bif Nat.blt g 559 then (bif Nat.blt g 537 then (bif Nat.blt g 526 then (bif Nat.blt g 521 then (bif Nat.blt g 518 then (bif Nat.blt g 517 then [574, 573] else [569, 570]) else (bif Nat.blt g 519 then [] else (bif Nat.blt g 520 then [460, 577, 460, 577, 460, 460] else [577, 578]))) else (bif Nat.blt g 523 then [] else (bif Nat.blt g 524 then [463] else []))) else (bif Nat.blt g 531 then (bif Nat.blt g 528 then (bif Nat.blt g 527 then [] else [463]) else (bif Nat.blt g 529 then [579, 580] else (bif Nat.blt g 530 then [579, 463] else [463, 463, 582, 581]))) else (bif Nat.blt g 534 then (bif Nat.blt g 532 then [463] else (bif Nat.blt g 533 then [] else [401, 583, 584, 585, 581, 532, 532, 532])) else (bif Nat.blt g 535 then [490] else (bif Nat.blt g 536 then [] else [204, 586]))))) else (bif Nat.blt g 548 then (bif Nat.blt g 542 then (bif Nat.blt g 539 then (bif Nat.blt g 538 then [269, 490, 268] else [471, 293]) else (bif Nat.blt g 540 then [] else (bif Nat.blt g 541 then [] else [293, 293]))) else (bif Nat.blt g 545 then (bif Nat.blt g 543 then [] else (bif Nat.blt g 544 then [] else [587, 587])) else (bif Nat.blt g 546 then [588] else (bif Nat.blt g 547 then [26, 589, 545] else [590])))) else (bif Nat.blt g 553 then (bif Nat.blt g 550 then (bif Nat.blt g 549 then [269, 269, 268] else []) else (bif Nat.blt g 551 then [591, 592, 593, 594, 595, 596, 597, 598, 550, 550] else (bif Nat.blt g 552 then [] else [599, 599]))) else (bif Nat.blt g 556 then (bif Nat.blt g 554 then [316, 317] else (bif Nat.blt g 555 then [600, 600, 600, 601] else [])) else [])))) else (bif Nat.blt g 580 then (bif Nat.blt g 569 then (bif Nat.blt g 564 then (bif Nat.blt g 561 then (bif Nat.blt g 560 then [] else [123]) else (bif Nat.blt g 562 then [158] else (bif Nat.blt g 563 then [602, 603, 602, 604, 603, 503] else [605, 431, 605, 501]))) else (bif Nat.blt g 566 then [] else (bif Nat.blt g 567 then [504, 503, 45, 449, 503, 448, 45] else (bif Nat.blt g 568 then [606] else [606])))) else (bif Nat.blt g 574 then (bif Nat.blt g 571 then (bif Nat.blt g 570 then [332] else [607]) else (bif Nat.blt g 572 then [] else (bif Nat.blt g 573 then [608, 609, 571, 146, 610] else []))) else (bif Nat.blt g 577 then (bif Nat.blt g 575 then [576, 575] else (bif Nat.blt g 576 then [573] else [])) else []))) else (bif Nat.blt g 591 then (bif Nat.blt g 585 then (bif Nat.blt g 582 then (bif Nat.blt g 581 then [463, 401, 582, 585] else [463, 463]) else (bif Nat.blt g 583 then [] else (bif Nat.blt g 584 then [463, 463, 399] else [463, 463, 462, 462, 611]))) else (bif Nat.blt g 588 then (bif Nat.blt g 586 then [463, 463, 462, 462, 611] else (bif Nat.blt g 587 then [612, 613, 614, 615, 616, 617, 618, 619, 586, 586] else [620, 547])) else (bif Nat.blt g 589 then [621, 622] else (bif Nat.blt g 590 then [47] else [623, 623, 624, 624])))) else (bif Nat.blt g 596 then (bif Nat.blt g 593 then (bif Nat.blt g 592 then [] else [625, 625]) else (bif Nat.blt g 594 then [316, 317] else (bif Nat.blt g 595 then [626, 626, 626, 627] else []))) else (bif Nat.blt g 599 then [] else (bif Nat.blt g 600 then [] else (bif Nat.blt g 601 then [601] else [628, 628, 628]))))))) else (bif Nat.blt g 645 then (bif Nat.blt g 623 then (bif Nat.blt g 612 then (bif Nat.blt g 607 then (bif Nat.blt g 604 then [] else (bif Nat.blt g 605 then [] else (bif Nat.blt g 606 then [431, 605, 501, 629] else [630, 630, 630]))) else (bif Nat.blt g 609 then (bif Nat.blt g 608 then [] else [608]) else (bif Nat.blt g 610 then [571] else (bif Nat.blt g 611 then [] else [521, 521, 631, 631, 461])))) else (bif Nat.blt g 617 then (bif Nat.blt g 614 then (bif Nat.blt g 613 then [] else [632, 632]) else (bif Nat.blt g 615 then [316, 317] else (bif Nat.blt g 616 then [633, 633, 633, 634] else []))) else (bif Nat.blt g 620 then [] else (bif Nat.blt g 621 then [269] else (bif Nat.blt g 622 then [635] else []))))) else (bif Nat.blt g 634 then (bif Nat.blt g 628 then (bif Nat.blt g 625 then (bif Nat.blt g 624 then [] else [636, 624, 624]) else (bif Nat.blt g 626 then [] else (bif Nat.blt g 627 then [627] else [637, 637, 637]))) else (bif Nat.blt g 631 then (bif Nat.blt g 629 then [] else (bif Nat.blt g 630 then [638, 431, 638, 501, 431, 638, 501, 431, 638, 501, 431, 638, 501, 431, 638, 501, 431, 638, 501, 501] else [639, 639, 639])) else (bif Nat.blt g 632 then [] else (bif Nat.blt g 633 then [] else [634])))) else (bif Nat.blt g 639 then (bif Nat.blt g 636 then (bif Nat.blt g 635 then [640, 640, 640] else [641]) else (bif Nat.blt g 637 then [642, 642, 642] else (bif Nat.blt g 638 then [] else [643, 431, 431, 643, 501]))) else (bif Nat.blt g 642 then (bif Nat.blt g 640 then [] else (bif Nat.blt g 641 then [] else [47])) else (bif Nat.blt g 643 then [] else (bif Nat.blt g 644 then [644, 431, 431, 644, 501] else [431, 644, 501, 645])))))) else (bif Nat.blt g 666 then (bif Nat.blt g 655 then (bif Nat.blt g 650 then (bif Nat.blt g 647 then (bif Nat.blt g 646 then [434, 646, 435, 647, 431, 431, 431, 648, 431, 648, 431, 649, 431, 650, 431, 650, 431, 440, 376, 433, 432] else [499, 434, 602, 497]) else (bif Nat.blt g 648 then [377, 431, 440, 376] else (bif Nat.blt g 649 then [376, 440, 376, 440, 376, 501] else [376, 440, 501, 376, 441, 376, 442, 434, 602, 437, 376]))) else (bif Nat.blt g 652 then (bif Nat.blt g 651 then [376, 377, 376, 433, 498, 432, 376] else []) else [])) else []) else (bif Nat.blt g 677 then [] else (bif Nat.blt g 682 then [] else (bif Nat.blt g 685 then [] else (bif Nat.blt g 686 then [] else (bif Nat.blt g 687 then [] else [221, 221])))))))))) else []
def glT (g : Nat) : List Nat := bif Nat.blt g 688 then (bif Nat.blt g 344 then (bif Nat.blt g 172 then (bif Nat.blt g 86 then (bif Nat.blt g 43 then [] else (bif Nat.blt g 64 then (bif Nat.blt g 53 then [] else (bif Nat.blt g 58 then [] else (bif Nat.blt g 61 then [] else (bif Nat.blt g 62 then [] else (bif Nat.blt g 63 then [] else [0]))))) else [])) else (bif Nat.blt g 129 then (bif Nat.blt g 107 then [] else (bif Nat.blt g 118 then (bif Nat.blt g 112 then (bif Nat.blt g 109 then [] else (bif Nat.blt g 110 then [] else (bif Nat.blt g 111 then [] else [1, 1, 1]))) else []) else [])) else (bif Nat.blt g 150 then [] else (bif Nat.blt g 161 then [] else (bif Nat.blt g 166 then [] else (bif Nat.blt g 169 then (bif Nat.blt g 167 then [2] else (bif Nat.blt g 168 then [3] else [])) else [])))))) else (bif Nat.blt g 258 then (bif Nat.blt g 215 then (bif Nat.blt g 193 then (bif Nat.blt g 182 then (bif Nat.blt g 177 then (bif Nat.blt g 174 then (bif Nat.blt g 173 then [] else [4]) else []) else []) else []) else []) else []) else (bif Nat.blt g 301 then (bif Nat.blt g 279 then (bif Nat.blt g 268 then [] else (bif Nat.blt g 273 then [] else (bif Nat.blt g 276 then (bif Nat.blt g 274 then [5, 6] else []) else (bif Nat.blt g 277 then [7] else (bif Nat.blt g 278 then [8] else []))))) else (bif Nat.blt g 290 then [] else (bif Nat.blt g 295 then [] else (bif Nat.blt g 298 then [] else (bif Nat.blt g 299 then [9] else []))))) else (bif Nat.blt g 322 then [] else (bif Nat.blt g 333 then [] else (bif Nat.blt g 338 then [] else (bif Nat.blt g 341 then [] else (bif Nat.blt g 342 then [] else (bif Nat.blt g 343 then [10] else []))))))))) else (bif Nat.blt g 516 then (bif Nat.blt g 430 then [] else (bif Nat.blt g 473 then [] else (bif Nat.blt g 494 then [] else (bif Nat.blt g 505 then (bif Nat.blt g 499 then [] else (bif Nat.blt g 502 then [] else (bif Nat.blt g 503 then [11] else []))) else [])))) else (bif Nat.blt g 602 then [] else (bif Nat.blt g 645 then [] else (bif Nat.blt g 666 then [] else (bif Nat.blt g 677 then [] else (bif Nat.blt g 682 then [] else (bif Nat.blt g 685 then [] else (bif Nat.blt g 686 then [] else (bif Nat.blt g 687 then [] else [7, 8, 4, 6, 9, 3, 2, 10, 11, 0])))))))))) else []
def enT (g : Nat) : Option String := bif Nat.blt g 688 then (bif Nat.blt g 344 then (bif Nat.blt g 172 then (bif Nat.blt g 86 then .none else (bif Nat.blt g 129 then .none else (bif Nat.blt g 150 then .none else (bif Nat.blt g 161 then (bif Nat.blt g 155 then .none else (bif Nat.blt g 158 then .none else (bif Nat.blt g 159 then .none else (bif Nat.blt g 160 then (some "internal/bytealg.MaxLen") else .none)))) else .none)))) else .none) else .none) else .none
def ipT (g : Nat) : Option String := bif Nat.blt g 688 then (bif Nat.blt g 344 then (bif Nat.blt g 172 then (bif Nat.blt g 86 then (bif Nat.blt g 43 then (bif Nat.blt g 21 then (bif Nat.blt g 10 then (bif Nat.blt g 5 then (bif Nat.blt g 2 then (bif Nat.blt g 1 then (some "main.main") else (some "gosem.cut")) else .none) else .none) else .none) else .none) else .none) else (bif Nat.blt g 129 then (bif Nat.blt g 107 then .none else (bif Nat.blt g 118 then (bif Nat.blt g 112 then .none else (bif Nat.blt g 115 then .none else (bif Nat.blt g 116 then (some "internal/abi.NoEscape") else .none))) else .none)) else (bif Nat.blt g 150 then .none else (bif Nat.blt g 161 then (bif Nat.blt g 155 then .none else (bif Nat.blt g 158 then .none else (bif Nat.blt g 159 then .none else (bif Nat.blt g 160 then (some "internal/bytealg.IndexString") else .none)))) else .none)))) else (bif Nat.blt g 258 then (bif Nat.blt g 215 then (bif Nat.blt g 193 then .none else (bif Nat.blt g 204 then .none else (bif Nat.blt g 209 then .none else (bif Nat.blt g 212 then .none else (bif Nat.blt g 213 then .none else (bif Nat.blt g 214 then .none else (some "internal/bytealg.IndexByteString"))))))) else (bif Nat.blt g 236 then (bif Nat.blt g 225 then (bif Nat.blt g 220 then (bif Nat.blt g 217 then .none else (bif Nat.blt g 218 then .none else (bif Nat.blt g 219 then (some "internal/bytealg.CountString") else .none))) else .none) else .none) else .none)) else .none)) else (bif Nat.blt g 516 then (bif Nat.blt g 430 then .none else (bif Nat.blt g 473 then .none else (bif Nat.blt g 494 then (bif Nat.blt g 483 then .none else (bif Nat.blt g 488 then .none else (bif Nat.blt g 491 then .none else (bif Nat.blt g 492 then .none else (bif Nat.blt g 493 then (some "internal/bytealg.abigen_runtime_cmpstring") else .none))))) else .none))) else (bif Nat.blt g 602 then .none else (bif Nat.blt g 645 then .none else (bif Nat.blt g 666 then (bif Nat.blt g 655 then (bif Nat.blt g 650 then .none else (bif Nat.blt g 652 then (bif Nat.blt g 651 then .none else (some "(runtime.boundsError).Error")) else (bif Nat.blt g 653 then (some "(runtime.boundsError).RuntimeError") else (bif Nat.blt g 654 then (some "(runtime.errorString).Error") else (some "(runtime.errorString).RuntimeError"))))) else (bif Nat.blt g 660 then (bif Nat.blt g 657 then (bif Nat.blt g 656 then (some "(runtime.plainError).Error") else (some "(runtime.plainError).RuntimeError")) else (bif Nat.blt g 658 then (some "(runtime.errorAddressString).Error") else (bif Nat.blt g 659 then (some "(runtime.errorAddressString).RuntimeError") else (some "(*runtime.TypeAssertionError).Error")))) else (bif Nat.blt g 663 then (bif Nat.blt g 661 then (some "(*runtime.TypeAssertionError).RuntimeError") else (bif Nat.blt g 662 then (some "(*runtime.PanicNilError).Error") else (some "(*runtime.PanicNilError).RuntimeError"))) else (bif Nat.blt g 664 then (some "(*internal/abi.Type).Align") else (bif Nat.blt g 665 then (some "(internal/runtime/maps.unhashableTypeError).Error") else (some "(internal/runtime/maps.unhashableTypeError).RuntimeError")))))) else (bif Nat.blt g 677 then (bif Nat.blt g 671 then (bif Nat.blt g 668 then (bif Nat.blt g 667 then (some "(*payroll/paygen.Deck).Amount") else (some "(*strings.Builder).Reset")) else (bif Nat.blt g 669 then (some "(*payroll/filing.Authority).Total") else (bif Nat.blt g 670 then (some "(internal/strconv.Error).Error") else (some "(*strconv.NumError).Error")))) else (bif Nat.blt g 674 then (bif Nat.blt g 672 then (some "(*errors.errorString).Error") else (bif Nat.blt g 673 then (some "(payroll/depend.graph).cycle") else (some "(internal/abi.Kind).String"))) else (bif Nat.blt g 675 then (some "var's door: gosem.cut.vars holds initialisers alone; see the manifest's row cutvarsword (look 11, test files too)") else (bif Nat.blt g 676 then (some "var's door: internal/strconv.uint64pow10 is laid by its own initialiser, plain data (look 11)") else (some "var's door: math/bits.deBruijn32tab is laid by its own initialiser, plain data (look 11)"))))) else (bif Nat.blt g 682 then (bif Nat.blt g 679 then (bif Nat.blt g 678 then (some "var's door: math/bits.deBruijn64tab is laid by its own initialiser, plain data (look 11)") else (some "var's door: payroll/calendar.lengths is laid by its own initialiser, plain data (look 11)")) else (bif Nat.blt g 680 then (some "var's door: payroll/console.forms is laid by its own initialiser, plain data (look 11)") else (bif Nat.blt g 681 then (some "var's door: payroll/run.transitions is laid by its own initialiser, plain data (look 11)") else (some "var's door: payroll/syntax.modeNames is laid by its own initialiser, plain data (look 11)")))) else (bif Nat.blt g 685 then (bif Nat.blt g 683 then (some "var's door: strconv.ErrRange is laid by its own call of errors.New on one literal (look 11)") else (bif Nat.blt g 684 then (some "var's door: strconv.ErrSyntax is laid by its own call of errors.New on one literal (look 11)") else (some "var's door: the look of gosem.cut.vars went over the folder that the caller named as the repository's root (look 11)"))) else (bif Nat.blt g 686 then (some "var's door: unicode/utf8.acceptRanges is laid by its own initialiser, plain data (look 11)") else (bif Nat.blt g 687 then (some "var's door: unicode/utf8.first is laid by its text alone (pinned 1)") else .none)))))))))) else .none
noncomputable def ipP (g : Nat) : Option String := (Tryz.prog.funcs[g]?).bind fun fn => if fn.ours || fn.body.isNone || fn.name == "runtime.NumGoroutine" then some fn.name else none
noncomputable def glP (g : Nat) : List Nat := ((Tryz.prog.funcs[g]?).bind (·.body)).elim [] Code.globalsNamed
noncomputable def enP (g : Nat) : Option String := (Tryz.prog.funcs[g]?).bind fun fn => if fn.body.isNone then entryReads.lookup fn.name else none
noncomputable def fineF (g : Nat) : Bool := leads Tryz.prog g == ldT g && ipP g == ipT g && glP g == glT g && enP g == enT g && !(Tryz.prog.funcs[g]?).any Func.goes
theorem fc0 : (List.range' 0 8).all fineF = true := by kernel_rfl
theorem fc1 : (List.range' 8 8).all fineF = true := by kernel_rfl
theorem fc2 : (List.range' 16 8).all fineF = true := by kernel_rfl
theorem fc3 : (List.range' 24 8).all fineF = true := by kernel_rfl
theorem fc4 : (List.range' 32 8).all fineF = true := by kernel_rfl
theorem fc5 : (List.range' 40 8).all fineF = true := by kernel_rfl
theorem fc6 : (List.range' 48 8).all fineF = true := by kernel_rfl
theorem fc7 : (List.range' 56 8).all fineF = true := by kernel_rfl
theorem fc8 : (List.range' 64 8).all fineF = true := by kernel_rfl
theorem fc9 : (List.range' 72 8).all fineF = true := by kernel_rfl
theorem fc10 : (List.range' 80 8).all fineF = true := by kernel_rfl
theorem fc11 : (List.range' 88 8).all fineF = true := by kernel_rfl
theorem fc12 : (List.range' 96 8).all fineF = true := by kernel_rfl
theorem fc13 : (List.range' 104 8).all fineF = true := by kernel_rfl
theorem fc14 : (List.range' 112 8).all fineF = true := by kernel_rfl
theorem fc15 : (List.range' 120 8).all fineF = true := by kernel_rfl
theorem fc16 : (List.range' 128 8).all fineF = true := by kernel_rfl
theorem fc17 : (List.range' 136 8).all fineF = true := by kernel_rfl
theorem fc18 : (List.range' 144 8).all fineF = true := by kernel_rfl
theorem fc19 : (List.range' 152 8).all fineF = true := by kernel_rfl
theorem fc20 : (List.range' 160 8).all fineF = true := by kernel_rfl
theorem fc21 : (List.range' 168 8).all fineF = true := by kernel_rfl
theorem fc22 : (List.range' 176 8).all fineF = true := by kernel_rfl
theorem fc23 : (List.range' 184 8).all fineF = true := by kernel_rfl
theorem fc24 : (List.range' 192 8).all fineF = true := by kernel_rfl
theorem fc25 : (List.range' 200 8).all fineF = true := by kernel_rfl
theorem fc26 : (List.range' 208 8).all fineF = true := by kernel_rfl
theorem fc27 : (List.range' 216 8).all fineF = true := by kernel_rfl
theorem fc28 : (List.range' 224 8).all fineF = true := by kernel_rfl
theorem fc29 : (List.range' 232 8).all fineF = true := by kernel_rfl
theorem fc30 : (List.range' 240 8).all fineF = true := by kernel_rfl
theorem fc31 : (List.range' 248 8).all fineF = true := by kernel_rfl
theorem fc32 : (List.range' 256 8).all fineF = true := by kernel_rfl
theorem fc33 : (List.range' 264 8).all fineF = true := by kernel_rfl
theorem fc34 : (List.range' 272 8).all fineF = true := by kernel_rfl
theorem fc35 : (List.range' 280 8).all fineF = true := by kernel_rfl
theorem fc36 : (List.range' 288 8).all fineF = true := by kernel_rfl
theorem fc37 : (List.range' 296 8).all fineF = true := by kernel_rfl
theorem fc38 : (List.range' 304 8).all fineF = true := by kernel_rfl
theorem fc39 : (List.range' 312 8).all fineF = true := by kernel_rfl
theorem fc40 : (List.range' 320 8).all fineF = true := by kernel_rfl
theorem fc41 : (List.range' 328 8).all fineF = true := by kernel_rfl
theorem fc42 : (List.range' 336 8).all fineF = true := by kernel_rfl
theorem fc43 : (List.range' 344 8).all fineF = true := by kernel_rfl
theorem fc44 : (List.range' 352 8).all fineF = true := by kernel_rfl
theorem fc45 : (List.range' 360 8).all fineF = true := by kernel_rfl
theorem fc46 : (List.range' 368 8).all fineF = true := by kernel_rfl
theorem fc47 : (List.range' 376 8).all fineF = true := by kernel_rfl
theorem fc48 : (List.range' 384 8).all fineF = true := by kernel_rfl
theorem fc49 : (List.range' 392 8).all fineF = true := by kernel_rfl
theorem fc50 : (List.range' 400 8).all fineF = true := by kernel_rfl
theorem fc51 : (List.range' 408 8).all fineF = true := by kernel_rfl
theorem fc52 : (List.range' 416 8).all fineF = true := by kernel_rfl
theorem fc53 : (List.range' 424 8).all fineF = true := by kernel_rfl
theorem fc54 : (List.range' 432 8).all fineF = true := by kernel_rfl
theorem fc55 : (List.range' 440 8).all fineF = true := by kernel_rfl
theorem fc56 : (List.range' 448 8).all fineF = true := by kernel_rfl
theorem fc57 : (List.range' 456 8).all fineF = true := by kernel_rfl
theorem fc58 : (List.range' 464 8).all fineF = true := by kernel_rfl
theorem fc59 : (List.range' 472 8).all fineF = true := by kernel_rfl
theorem fc60 : (List.range' 480 8).all fineF = true := by kernel_rfl
theorem fc61 : (List.range' 488 8).all fineF = true := by kernel_rfl
theorem fc62 : (List.range' 496 8).all fineF = true := by kernel_rfl
theorem fc63 : (List.range' 504 8).all fineF = true := by kernel_rfl
theorem fc64 : (List.range' 512 8).all fineF = true := by kernel_rfl
theorem fc65 : (List.range' 520 8).all fineF = true := by kernel_rfl
theorem fc66 : (List.range' 528 8).all fineF = true := by kernel_rfl
theorem fc67 : (List.range' 536 8).all fineF = true := by kernel_rfl
theorem fc68 : (List.range' 544 8).all fineF = true := by kernel_rfl
theorem fc69 : (List.range' 552 8).all fineF = true := by kernel_rfl
theorem fc70 : (List.range' 560 8).all fineF = true := by kernel_rfl
theorem fc71 : (List.range' 568 8).all fineF = true := by kernel_rfl
theorem fc72 : (List.range' 576 8).all fineF = true := by kernel_rfl
theorem fc73 : (List.range' 584 8).all fineF = true := by kernel_rfl
theorem fc74 : (List.range' 592 8).all fineF = true := by kernel_rfl
theorem fc75 : (List.range' 600 8).all fineF = true := by kernel_rfl
theorem fc76 : (List.range' 608 8).all fineF = true := by kernel_rfl
theorem fc77 : (List.range' 616 8).all fineF = true := by kernel_rfl
theorem fc78 : (List.range' 624 8).all fineF = true := by kernel_rfl
theorem fc79 : (List.range' 632 8).all fineF = true := by kernel_rfl
theorem fc80 : (List.range' 640 8).all fineF = true := by kernel_rfl
theorem fc81 : (List.range' 648 8).all fineF = true := by kernel_rfl
theorem fc82 : (List.range' 656 8).all fineF = true := by kernel_rfl
theorem fc83 : (List.range' 664 8).all fineF = true := by kernel_rfl
theorem fc84 : (List.range' 672 8).all fineF = true := by kernel_rfl
theorem fc85 : (List.range' 680 8).all fineF = true := by kernel_rfl
theorem pf_size : Tryz.prog.funcs.size = 688 := by kernel_rfl
theorem fineAll : (List.range' 0 688).all fineF = true := (range_cut fineF 0 8 680 fc0 (range_cut fineF 8 8 672 fc1 (range_cut fineF 16 8 664 fc2 (range_cut fineF 24 8 656 fc3 (range_cut fineF 32 8 648 fc4 (range_cut fineF 40 8 640 fc5 (range_cut fineF 48 8 632 fc6 (range_cut fineF 56 8 624 fc7 (range_cut fineF 64 8 616 fc8 (range_cut fineF 72 8 608 fc9 (range_cut fineF 80 8 600 fc10 (range_cut fineF 88 8 592 fc11 (range_cut fineF 96 8 584 fc12 (range_cut fineF 104 8 576 fc13 (range_cut fineF 112 8 568 fc14 (range_cut fineF 120 8 560 fc15 (range_cut fineF 128 8 552 fc16 (range_cut fineF 136 8 544 fc17 (range_cut fineF 144 8 536 fc18 (range_cut fineF 152 8 528 fc19 (range_cut fineF 160 8 520 fc20 (range_cut fineF 168 8 512 fc21 (range_cut fineF 176 8 504 fc22 (range_cut fineF 184 8 496 fc23 (range_cut fineF 192 8 488 fc24 (range_cut fineF 200 8 480 fc25 (range_cut fineF 208 8 472 fc26 (range_cut fineF 216 8 464 fc27 (range_cut fineF 224 8 456 fc28 (range_cut fineF 232 8 448 fc29 (range_cut fineF 240 8 440 fc30 (range_cut fineF 248 8 432 fc31 (range_cut fineF 256 8 424 fc32 (range_cut fineF 264 8 416 fc33 (range_cut fineF 272 8 408 fc34 (range_cut fineF 280 8 400 fc35 (range_cut fineF 288 8 392 fc36 (range_cut fineF 296 8 384 fc37 (range_cut fineF 304 8 376 fc38 (range_cut fineF 312 8 368 fc39 (range_cut fineF 320 8 360 fc40 (range_cut fineF 328 8 352 fc41 (range_cut fineF 336 8 344 fc42 (range_cut fineF 344 8 336 fc43 (range_cut fineF 352 8 328 fc44 (range_cut fineF 360 8 320 fc45 (range_cut fineF 368 8 312 fc46 (range_cut fineF 376 8 304 fc47 (range_cut fineF 384 8 296 fc48 (range_cut fineF 392 8 288 fc49 (range_cut fineF 400 8 280 fc50 (range_cut fineF 408 8 272 fc51 (range_cut fineF 416 8 264 fc52 (range_cut fineF 424 8 256 fc53 (range_cut fineF 432 8 248 fc54 (range_cut fineF 440 8 240 fc55 (range_cut fineF 448 8 232 fc56 (range_cut fineF 456 8 224 fc57 (range_cut fineF 464 8 216 fc58 (range_cut fineF 472 8 208 fc59 (range_cut fineF 480 8 200 fc60 (range_cut fineF 488 8 192 fc61 (range_cut fineF 496 8 184 fc62 (range_cut fineF 504 8 176 fc63 (range_cut fineF 512 8 168 fc64 (range_cut fineF 520 8 160 fc65 (range_cut fineF 528 8 152 fc66 (range_cut fineF 536 8 144 fc67 (range_cut fineF 544 8 136 fc68 (range_cut fineF 552 8 128 fc69 (range_cut fineF 560 8 120 fc70 (range_cut fineF 568 8 112 fc71 (range_cut fineF 576 8 104 fc72 (range_cut fineF 584 8 96 fc73 (range_cut fineF 592 8 88 fc74 (range_cut fineF 600 8 80 fc75 (range_cut fineF 608 8 72 fc76 (range_cut fineF 616 8 64 fc77 (range_cut fineF 624 8 56 fc78 (range_cut fineF 632 8 48 fc79 (range_cut fineF 640 8 40 fc80 (range_cut fineF 648 8 32 fc81 (range_cut fineF 656 8 24 fc82 (range_cut fineF 664 8 16 fc83 (range_cut fineF 672 8 8 fc84 fc85)))))))))))))))))))))))))))))))))))))))))))))))))))))))))))))))))))))))))))))))))))))
theorem fine_at (g : Nat) : leads Tryz.prog g = ldT g ∧ ipP g = ipT g ∧ glP g = glT g ∧ enP g = enT g ∧ (Tryz.prog.funcs[g]?).any Func.goes = false := by
 by_cases hg : g < 688
 ·have h := List.all_eq_true.1 fineAll g (by rw [List.mem_range'_1]; omega)
  simp only [fineF, Bool.and_eq_true, beq_iff_eq, Bool.not_eq_true'] at h
  exact ⟨h.1.1.1.1, h.1.1.1.2, h.1.1.2, h.1.2, h.2⟩
 ·have hn : Tryz.prog.funcs[g]? = none := Array.getElem?_eq_none (by rw [pf_size]; omega)
  have hb : Nat.blt g 688 = false := by
   cases h : Nat.blt g 688
   ·rfl
   ·exact absurd (Nat.blt_eq.mp h) hg
  refine ⟨?_, ?_, ?_, ?_, ?_⟩
  ·unfold leads ldT; rw [hn, hb]; rfl
  ·unfold ipP ipT; rw [hn, hb]; rfl
  ·unfold glP glT; rw [hn, hb]; rfl
  ·unfold enP enT; rw [hn, hb]; rfl
  ·rw [hn]; rfl
theorem leadsT : leads Tryz.prog = ldT := funext fun g => (fine_at g).1
theorem ipPT : ipP = ipT := funext fun g => (fine_at g).2.1
theorem glPT : glP = glT := funext fun g => (fine_at g).2.2.1
theorem enPT : enP = enT := funext fun g => (fine_at g).2.2.2.1
theorem noGoes : Tryz.prog.funcs.any Func.goes = false := by
 rw [Array.any_eq_false]
 intro i hi h
 have := (fine_at i).2.2.2.2
 rw [Array.getElem?_eq_getElem hi] at this
 simp only [Option.any_some] at this
 rw [this] at h
 cases h
theorem closure_of {f : Nat} {L : List Nat} (n : Nat) (h : clo ldT n [f] 0 [] = some L) : Tryz.prog.closure f = L := closure_eq n (by rw [leadsT]; exact h)
theorem inPlace_of {f : Nat} {L : List Nat} (h : Tryz.prog.closure f = L) : Tryz.prog.inPlace f = L.filterMap ipT := by
 unfold Program.inPlace
 rw [h, ← ipPT]
 rfl
theorem varsNamed_of {f : Nat} {L : List Nat} (h : Tryz.prog.closure f = L) : Tryz.prog.varsNamed f = (((L.flatMap glT).eraseDups).filterMap (fun g => (Tryz.prog.globals[g]?).map (·.name)) ++ L.filterMap enT).eraseDups := by
 unfold Program.varsNamed
 rw [h, ← glPT, ← enPT]
 rfl
theorem unfollowed_of {f : Nat} {L : List Nat} (h : Tryz.prog.closure f = L) (g : Nat) (hg : L.contains g = true) (hu : ((Tryz.prog.funcs[g]?).any fun fn => match fn.body with | some c => c.unfollowed | none => entryCalls fn) = true) : Tryz.prog.unfollowed f = true := by
 unfold Program.unfollowed
 rw [h]
 exact List.any_eq_true.2 ⟨g, List.contains_iff_mem.1 hg, hu⟩
theorem recurses_of {f : Nat} (h : Tryz.prog.unfollowed f = true) : Tryz.prog.recurses f = true := by
 unfold Program.recurses
 rw [h]
 rfl
theorem goes_not (f : Nat) : Tryz.prog.goes f = false := by
 unfold Program.goes
 rw [noGoes, Bool.and_false, Bool.or_false, List.any_eq_false]
 intro g _ h
 rw [(fine_at g).2.2.2.2] at h
 cases h
theorem goesAt_not (s : String) : Tryz.prog.goesAt .entering s = false := by
 unfold Program.goesAt Program.goesFrom
 cases Tryz.prog.funcNamed s with
 | none => rfl
 | some f => simp only [Option.any_some, goes_not]; rfl
end Go.Proofs.YtdcbnkimjhefkaaGreatDoor
