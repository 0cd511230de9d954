/- Closed facts on the program's table of types and functions. -/
import Derived.Test.YtgfnkigoaajllaaGreatD
import Derived.Test.YtgfnkigoaajllaaGreatProg
import Derived.KernelRfl
set_option linter.unusedVariables false
set_option linter.unusedSimpArgs false
set_option maxRecDepth 100000
set_option maxHeartbeats 4000000
namespace Go.Proofs.YtgfnkigoaajllaaGreat
open Go.RowKit Go.Pod
theorem pa132 : pAgg Tryz.prog 132 = some false := by kernel_rfl
theorem pa140 : pAgg Tryz.prog 140 = some true := by kernel_rfl
theorem pa152 : pAgg Tryz.prog 152 = some true := by kernel_rfl
theorem pa227 : pAgg Tryz.prog 227 = some true := by kernel_rfl
theorem pa24 : pAgg Tryz.prog 24 = some false := by kernel_rfl
theorem pa26 : pAgg Tryz.prog 26 = some false := by kernel_rfl
theorem pa28 : pAgg Tryz.prog 28 = some false := by kernel_rfl
theorem pa3 : pAgg Tryz.prog 3 = some false := by kernel_rfl
theorem pa348 : pAgg Tryz.prog 348 = some true := by kernel_rfl
theorem pa349 : pAgg Tryz.prog 349 = some true := by kernel_rfl
theorem pa4 : pAgg Tryz.prog 4 = some false := by kernel_rfl
theorem pa42 : pAgg Tryz.prog 42 = some false := by kernel_rfl
theorem pa44 : pAgg Tryz.prog 44 = some false := by kernel_rfl
theorem pa46 : pAgg Tryz.prog 46 = some true := by kernel_rfl
theorem pa48 : pAgg Tryz.prog 48 = some true := by kernel_rfl
theorem pa49 : pAgg Tryz.prog 49 = some false := by kernel_rfl
theorem pa51 : pAgg Tryz.prog 51 = some true := by kernel_rfl
theorem pa53 : pAgg Tryz.prog 53 = some true := by kernel_rfl
theorem pa57 : pAgg Tryz.prog 57 = some true := by kernel_rfl
theorem pa59 : pAgg Tryz.prog 59 = some true := by kernel_rfl
theorem par27 : pArr Tryz.prog 27 = some (3, 26, 1) := by kernel_rfl
theorem par349 : pArr Tryz.prog 349 = some (12, 348, 2) := by kernel_rfl
theorem par46 : pArr Tryz.prog 46 = some (12, 44, 1) := by kernel_rfl
theorem pb140 : pBy Tryz.prog 140 = some 32 := by kernel_rfl
theorem pb152 : pBy Tryz.prog 152 = some 32 := by kernel_rfl
theorem pb227 : pBy Tryz.prog 227 = some 48 := by kernel_rfl
theorem pb26 : pBy Tryz.prog 26 = some 24 := by kernel_rfl
theorem pb3 : pBy Tryz.prog 3 = some 8 := by kernel_rfl
theorem pb4 : pBy Tryz.prog 4 = some 1 := by kernel_rfl
theorem pb5 : pBy Tryz.prog 5 = some 1 := by kernel_rfl
theorem pb51 : pBy Tryz.prog 51 = some 272 := by kernel_rfl
theorem pb55 : pBy Tryz.prog 55 = some 32 := by kernel_rfl
theorem pb57 : pBy Tryz.prog 57 = some 264 := by kernel_rfl
theorem pb59 : pBy Tryz.prog 59 = some 272 := by kernel_rfl
theorem pc101 : pCall Tryz.prog 101 = true := by kernel_rfl
theorem pc11 : pCall Tryz.prog 11 = true := by kernel_rfl
theorem pc113 : pCall Tryz.prog 113 = true := by kernel_rfl
theorem pc114 : pCall Tryz.prog 114 = true := by kernel_rfl
theorem pc115 : pCall Tryz.prog 115 = true := by kernel_rfl
theorem pc118 : pCall Tryz.prog 118 = true := by kernel_rfl
theorem pc119 : pCall Tryz.prog 119 = true := by kernel_rfl
theorem pc12 : pCall Tryz.prog 12 = true := by kernel_rfl
theorem pc120 : pCall Tryz.prog 120 = true := by kernel_rfl
theorem pc121 : pCall Tryz.prog 121 = true := by kernel_rfl
theorem pc122 : pCall Tryz.prog 122 = true := by kernel_rfl
theorem pc123 : pCall Tryz.prog 123 = true := by kernel_rfl
theorem pc124 : pCall Tryz.prog 124 = true := by kernel_rfl
theorem pc125 : pCall Tryz.prog 125 = true := by kernel_rfl
theorem pc126 : pCall Tryz.prog 126 = true := by kernel_rfl
theorem pc127 : pCall Tryz.prog 127 = true := by kernel_rfl
theorem pc13 : pCall Tryz.prog 13 = true := by kernel_rfl
theorem pc133 : pCall Tryz.prog 133 = true := by kernel_rfl
theorem pc134 : pCall Tryz.prog 134 = true := by kernel_rfl
theorem pc135 : pCall Tryz.prog 135 = true := by kernel_rfl
theorem pc14 : pCall Tryz.prog 14 = true := by kernel_rfl
theorem pc140 : pCall Tryz.prog 140 = true := by kernel_rfl
theorem pc15 : pCall Tryz.prog 15 = true := by kernel_rfl
theorem pc16 : pCall Tryz.prog 16 = true := by kernel_rfl
theorem pc161 : pCall Tryz.prog 161 = true := by kernel_rfl
theorem pc164 : pCall Tryz.prog 164 = true := by kernel_rfl
theorem pc17 : pCall Tryz.prog 17 = true := by kernel_rfl
theorem pc171 : pCall Tryz.prog 171 = true := by kernel_rfl
theorem pc176 : pCall Tryz.prog 176 = true := by kernel_rfl
theorem pc18 : pCall Tryz.prog 18 = true := by kernel_rfl
theorem pc181 : pCall Tryz.prog 181 = true := by kernel_rfl
theorem pc182 : pCall Tryz.prog 182 = true := by kernel_rfl
theorem pc183 : pCall Tryz.prog 183 = true := by kernel_rfl
theorem pc186 : pCall Tryz.prog 186 = true := by kernel_rfl
theorem pc19 : pCall Tryz.prog 19 = true := by kernel_rfl
theorem pc20 : pCall Tryz.prog 20 = true := by kernel_rfl
theorem pc200 : pCall Tryz.prog 200 = true := by kernel_rfl
theorem pc202 : pCall Tryz.prog 202 = true := by kernel_rfl
theorem pc204 : pCall Tryz.prog 204 = true := by kernel_rfl
theorem pc205 : pCall Tryz.prog 205 = true := by kernel_rfl
theorem pc207 : pCall Tryz.prog 207 = true := by kernel_rfl
theorem pc208 : pCall Tryz.prog 208 = true := by kernel_rfl
theorem pc21 : pCall Tryz.prog 21 = true := by kernel_rfl
theorem pc22 : pCall Tryz.prog 22 = true := by kernel_rfl
theorem pc222 : pCall Tryz.prog 222 = true := by kernel_rfl
theorem pc229 : pCall Tryz.prog 229 = true := by kernel_rfl
theorem pc23 : pCall Tryz.prog 23 = true := by kernel_rfl
theorem pc231 : pCall Tryz.prog 231 = true := by kernel_rfl
theorem pc233 : pCall Tryz.prog 233 = true := by kernel_rfl
theorem pc235 : pCall Tryz.prog 235 = true := by kernel_rfl
theorem pc242 : pCall Tryz.prog 242 = true := by kernel_rfl
theorem pc243 : pCall Tryz.prog 243 = true := by kernel_rfl
theorem pc244 : pCall Tryz.prog 244 = true := by kernel_rfl
theorem pc246 : pCall Tryz.prog 246 = true := by kernel_rfl
theorem pc247 : pCall Tryz.prog 247 = true := by kernel_rfl
theorem pc248 : pCall Tryz.prog 248 = true := by kernel_rfl
theorem pc249 : pCall Tryz.prog 249 = true := by kernel_rfl
theorem pc251 : pCall Tryz.prog 251 = true := by kernel_rfl
theorem pc252 : pCall Tryz.prog 252 = true := by kernel_rfl
theorem pc254 : pCall Tryz.prog 254 = true := by kernel_rfl
theorem pc255 : pCall Tryz.prog 255 = true := by kernel_rfl
theorem pc256 : pCall Tryz.prog 256 = true := by kernel_rfl
theorem pc257 : pCall Tryz.prog 257 = true := by kernel_rfl
theorem pc26 : pCall Tryz.prog 26 = true := by kernel_rfl
theorem pc269 : pCall Tryz.prog 269 = true := by kernel_rfl
theorem pc270 : pCall Tryz.prog 270 = true := by kernel_rfl
theorem pc272 : pCall Tryz.prog 272 = true := by kernel_rfl
theorem pc28 : pCall Tryz.prog 28 = true := by kernel_rfl
theorem pc281 : pCall Tryz.prog 281 = true := by kernel_rfl
theorem pc282 : pCall Tryz.prog 282 = true := by kernel_rfl
theorem pc283 : pCall Tryz.prog 283 = true := by kernel_rfl
theorem pc285 : pCall Tryz.prog 285 = true := by kernel_rfl
theorem pc286 : pCall Tryz.prog 286 = true := by kernel_rfl
theorem pc287 : pCall Tryz.prog 287 = true := by kernel_rfl
theorem pc288 : pCall Tryz.prog 288 = true := by kernel_rfl
theorem pc289 : pCall Tryz.prog 289 = true := by kernel_rfl
theorem pc290 : pCall Tryz.prog 290 = true := by kernel_rfl
theorem pc291 : pCall Tryz.prog 291 = true := by kernel_rfl
theorem pc297 : pCall Tryz.prog 297 = true := by kernel_rfl
theorem pc298 : pCall Tryz.prog 298 = true := by kernel_rfl
theorem pc299 : pCall Tryz.prog 299 = true := by kernel_rfl
theorem pc303 : pCall Tryz.prog 303 = true := by kernel_rfl
theorem pc35 : pCall Tryz.prog 35 = true := by kernel_rfl
theorem pc49 : pCall Tryz.prog 49 = true := by kernel_rfl
theorem pc50 : pCall Tryz.prog 50 = true := by kernel_rfl
theorem pc51 : pCall Tryz.prog 51 = true := by kernel_rfl
theorem pc52 : pCall Tryz.prog 52 = true := by kernel_rfl
theorem pc53 : pCall Tryz.prog 53 = true := by kernel_rfl
theorem pc54 : pCall Tryz.prog 54 = true := by kernel_rfl
theorem pc55 : pCall Tryz.prog 55 = true := by kernel_rfl
theorem pc56 : pCall Tryz.prog 56 = true := by kernel_rfl
theorem pc57 : pCall Tryz.prog 57 = true := by kernel_rfl
theorem pc58 : pCall Tryz.prog 58 = true := by kernel_rfl
theorem pc59 : pCall Tryz.prog 59 = true := by kernel_rfl
theorem pc60 : pCall Tryz.prog 60 = true := by kernel_rfl
theorem pc61 : pCall Tryz.prog 61 = true := by kernel_rfl
theorem pc62 : pCall Tryz.prog 62 = true := by kernel_rfl
theorem pc64 : pCall Tryz.prog 64 = true := by kernel_rfl
theorem pc65 : pCall Tryz.prog 65 = true := by kernel_rfl
theorem pc66 : pCall Tryz.prog 66 = true := by kernel_rfl
theorem pc72 : pCall Tryz.prog 72 = true := by kernel_rfl
theorem pc73 : pCall Tryz.prog 73 = true := by kernel_rfl
theorem pc74 : pCall Tryz.prog 74 = true := by kernel_rfl
theorem pc83 : pCall Tryz.prog 83 = true := by kernel_rfl
theorem pc84 : pCall Tryz.prog 84 = true := by kernel_rfl
theorem pf134_0 : pFld Tryz.prog 134 0 = some 0 := by kernel_rfl
theorem pf134_1 : pFld Tryz.prog 134 1 = some 1 := by kernel_rfl
theorem pf140_0 : pFld Tryz.prog 140 0 = some 0 := by kernel_rfl
theorem pf140_1 : pFld Tryz.prog 140 1 = some 1 := by kernel_rfl
theorem pf152_0 : pFld Tryz.prog 152 0 = some 0 := by kernel_rfl
theorem pf152_1 : pFld Tryz.prog 152 1 = some 1 := by kernel_rfl
theorem pf152_2 : pFld Tryz.prog 152 2 = some 2 := by kernel_rfl
theorem pf152_3 : pFld Tryz.prog 152 3 = some 3 := by kernel_rfl
theorem pf48_0 : pFld Tryz.prog 48 0 = some 0 := by kernel_rfl
theorem pf48_1 : pFld Tryz.prog 48 1 = some 12 := by kernel_rfl
theorem pf51_0 : pFld Tryz.prog 51 0 = some 0 := by kernel_rfl
theorem pf51_1 : pFld Tryz.prog 51 1 = some 24 := by kernel_rfl
theorem pf51_2 : pFld Tryz.prog 51 2 = some 25 := by kernel_rfl
theorem pf51_3 : pFld Tryz.prog 51 3 = some 26 := by kernel_rfl
theorem pf51_4 : pFld Tryz.prog 51 4 = some 27 := by kernel_rfl
theorem pf51_5 : pFld Tryz.prog 51 5 = some 28 := by kernel_rfl
theorem pf51_6 : pFld Tryz.prog 51 6 = some 29 := by kernel_rfl
theorem pf51_7 : pFld Tryz.prog 51 7 = some 30 := by kernel_rfl
theorem pf51_8 : pFld Tryz.prog 51 8 = some 31 := by kernel_rfl
theorem pf53_0 : pFld Tryz.prog 53 0 = some 0 := by kernel_rfl
theorem pf53_1 : pFld Tryz.prog 53 1 = some 1 := by kernel_rfl
theorem pf53_2 : pFld Tryz.prog 53 2 = some 2 := by kernel_rfl
theorem pf53_3 : pFld Tryz.prog 53 3 = some 3 := by kernel_rfl
theorem pf53_4 : pFld Tryz.prog 53 4 = some 4 := by kernel_rfl
theorem pf55_0 : pFld Tryz.prog 55 0 = some 0 := by kernel_rfl
theorem pf55_1 : pFld Tryz.prog 55 1 = some 1 := by kernel_rfl
theorem pf57_0 : pFld Tryz.prog 57 0 = some 0 := by kernel_rfl
theorem pf57_1 : pFld Tryz.prog 57 1 = some 1 := by kernel_rfl
theorem pf57_2 : pFld Tryz.prog 57 2 = some 25 := by kernel_rfl
theorem pf57_3 : pFld Tryz.prog 57 3 = some 26 := by kernel_rfl
theorem pf57_4 : pFld Tryz.prog 57 4 = some 27 := by kernel_rfl
theorem pf57_5 : pFld Tryz.prog 57 5 = some 28 := by kernel_rfl
theorem pf57_6 : pFld Tryz.prog 57 6 = some 29 := by kernel_rfl
theorem pf57_7 : pFld Tryz.prog 57 7 = some 30 := by kernel_rfl
theorem pf59_0 : pFld Tryz.prog 59 0 = some 0 := by kernel_rfl
theorem pf59_1 : pFld Tryz.prog 59 1 = some 1 := by kernel_rfl
theorem pft348_1 : pFldT Tryz.prog 348 1 = some (3, 1) := by kernel_rfl
theorem pp134 : pPlaces Tryz.prog 134 = some [(0, 1), (1, 1)] := by kernel_rfl
theorem pp140 : pPlaces Tryz.prog 140 = some [(0, 1), (1, 1)] := by kernel_rfl
theorem pp152 : pPlaces Tryz.prog 152 = some [(0, 1), (1, 1), (2, 1), (3, 1)] := by kernel_rfl
theorem pp227 : pPlaces Tryz.prog 227 = some [(0, 1), (1, 1)] := by kernel_rfl
theorem pp348 : pPlaces Tryz.prog 348 = some [(0, 1), (1, 1)] := by kernel_rfl
theorem pp48 : pPlaces Tryz.prog 48 = some [(0, 12), (12, 12)] := by kernel_rfl
theorem pp51 : pPlaces Tryz.prog 51 = some [(0, 24), (24, 1), (25, 1), (26, 1), (27, 1), (28, 1), (29, 1), (30, 1), (31, 1)] := by kernel_rfl
theorem pp55 : pPlaces Tryz.prog 55 = some [(0, 1), (1, 1)] := by kernel_rfl
theorem pp57 : pPlaces Tryz.prog 57 = some [(0, 1), (1, 24), (25, 1), (26, 1), (27, 1), (28, 1), (29, 1), (30, 1)] := by kernel_rfl
theorem pp59 : pPlaces Tryz.prog 59 = some [(0, 1), (1, 31)] := by kernel_rfl
theorem ps132 : pSz Tryz.prog 132 = some 1 := by kernel_rfl
theorem ps140 : pSz Tryz.prog 140 = some 2 := by kernel_rfl
theorem ps152 : pSz Tryz.prog 152 = some 4 := by kernel_rfl
theorem ps227 : pSz Tryz.prog 227 = some 2 := by kernel_rfl
theorem ps26 : pSz Tryz.prog 26 = some 1 := by kernel_rfl
theorem ps349 : pSz Tryz.prog 349 = some 24 := by kernel_rfl
theorem ps44 : pSz Tryz.prog 44 = some 1 := by kernel_rfl
theorem ps46 : pSz Tryz.prog 46 = some 12 := by kernel_rfl
theorem ps48 : pSz Tryz.prog 48 = some 24 := by kernel_rfl
theorem ps49 : pSz Tryz.prog 49 = some 1 := by kernel_rfl
theorem ps5 : pSz Tryz.prog 5 = some 1 := by kernel_rfl
theorem ps51 : pSz Tryz.prog 51 = some 32 := by kernel_rfl
theorem ps53 : pSz Tryz.prog 53 = some 36 := by kernel_rfl
theorem ps57 : pSz Tryz.prog 57 = some 31 := by kernel_rfl
theorem ps59 : pSz Tryz.prog 59 = some 32 := by kernel_rfl
theorem psl132 : pSlc Tryz.prog 132 = some (140, 2) := by kernel_rfl
theorem psl141 : pSlc Tryz.prog 141 = some (227, 2) := by kernel_rfl
theorem psl22 : pSlc Tryz.prog 22 = some (28, 1) := by kernel_rfl
theorem psl26 : pSlc Tryz.prog 26 = some (51, 32) := by kernel_rfl
theorem psl28 : pSlc Tryz.prog 28 = some (59, 32) := by kernel_rfl
theorem psl298 : pSlc Tryz.prog 298 = some (4, 1) := by kernel_rfl
theorem psl32 : pSlc Tryz.prog 32 = some (57, 31) := by kernel_rfl
theorem psl372 : pSlc Tryz.prog 372 = some (44, 1) := by kernel_rfl
theorem psl38 : pSlc Tryz.prog 38 = some (3, 1) := by kernel_rfl
theorem psl41 : pSlc Tryz.prog 41 = some (53, 36) := by kernel_rfl
theorem psl42 : pSlc Tryz.prog 42 = some (26, 1) := by kernel_rfl
theorem psl43 : pSlc Tryz.prog 43 = some (55, 2) := by kernel_rfl
theorem psl49 : pSlc Tryz.prog 49 = some (152, 4) := by kernel_rfl
theorem psl99 : pSlc Tryz.prog 99 = some (5, 1) := by kernel_rfl
theorem pu132 : Tryz.prog.underlying 132 = some (.slice 140) := by kernel_rfl
theorem pu22 : Tryz.prog.underlying 22 = some (.slice 28) := by kernel_rfl
theorem pu235 : Tryz.prog.underlying 235 = some (.int .u64) := by kernel_rfl
theorem pu24 : Tryz.prog.underlying 24 = some (.pointer 134) := by kernel_rfl
theorem pu26 : Tryz.prog.underlying 26 = some (.slice 51) := by kernel_rfl
theorem pu28 : Tryz.prog.underlying 28 = some (.slice 59) := by kernel_rfl
theorem pu298 : Tryz.prog.underlying 298 = some (.slice 4) := by kernel_rfl
theorem pu3 : Tryz.prog.underlying 3 = some (.int .i64) := by kernel_rfl
theorem pu32 : Tryz.prog.underlying 32 = some (.slice 57) := by kernel_rfl
theorem pu372 : Tryz.prog.underlying 372 = some (.slice 44) := by kernel_rfl
theorem pu38 : Tryz.prog.underlying 38 = some (.slice 3) := by kernel_rfl
theorem pu4 : Tryz.prog.underlying 4 = some .bool := by kernel_rfl
theorem pu41 : Tryz.prog.underlying 41 = some (.slice 53) := by kernel_rfl
theorem pu42 : Tryz.prog.underlying 42 = some (.slice 26) := by kernel_rfl
theorem pu43 : Tryz.prog.underlying 43 = some (.slice 55) := by kernel_rfl
theorem pu49 : Tryz.prog.underlying 49 = some (.slice 152) := by kernel_rfl
theorem pu5 : Tryz.prog.underlying 5 = some (.int .u8) := by kernel_rfl
theorem pu9 : Tryz.prog.underlying 9 = some .string := by kernel_rfl
theorem pu99 : Tryz.prog.underlying 99 = some (.slice 5) := by kernel_rfl
theorem pz134 : pZero Tryz.prog 134 = some (.agg (Tshadow_Shadow.enc Tshadow_Shadow.zero none 0 none 0).toArray) := by kernel_rfl
theorem pz140 : pZero Tryz.prog 140 = some (.agg (Tshadow_open.enc Tshadow_open.zero none 0).toArray) := by kernel_rfl
theorem pz152 : pZero Tryz.prog 152 = some (.agg (TAct.enc TAct.zero).toArray) := by kernel_rfl
theorem pz227 : pZero Tryz.prog 227 = some (.agg (Tundo_Patch.enc Tundo_Patch.zero none 0 none 0).toArray) := by kernel_rfl
theorem pz26 : pZero Tryz.prog 26 = some (.slice none 0 0) := by kernel_rfl
theorem pz27 : pZero Tryz.prog 27 = some (.agg (AL3_26.enc AL3_26.zero none 0 none 0 none 0).toArray) := by kernel_rfl
theorem pz3 : pZero Tryz.prog 3 = some (.int .i64 0) := by kernel_rfl
theorem pz348 : pZero Tryz.prog 348 = some (.agg (Thead_field.enc Thead_field.zero).toArray) := by kernel_rfl
theorem pz349 : pZero Tryz.prog 349 = some (.agg (A12Thead_field.enc A12Thead_field.zero).toArray) := by kernel_rfl
theorem pz4 : pZero Tryz.prog 4 = some (.bool false) := by kernel_rfl
theorem pz46 : pZero Tryz.prog 46 = some (.agg (A12u64.enc A12u64.zero).toArray) := by kernel_rfl
theorem pz48 : pZero Tryz.prog 48 = some (.agg (TCube.enc TCube.zero).toArray) := by kernel_rfl
theorem pz5 : pZero Tryz.prog 5 = some (.int .u8 0) := by kernel_rfl
theorem pz51 : pZero Tryz.prog 51 = some (.agg (TRule.enc TRule.zero none 0).toArray) := by kernel_rfl
theorem pz53 : pZero Tryz.prog 53 = some (.agg (Tpodestalaw22_Act.enc Tpodestalaw22_Act.zero none 0 none 0).toArray) := by kernel_rfl
theorem pz55 : pZero Tryz.prog 55 = some (.agg (Tpodestalaw22_open.enc Tpodestalaw22_open.zero none 0).toArray) := by kernel_rfl
theorem pz57 : pZero Tryz.prog 57 = some (.agg (TMod.enc TMod.zero none 0).toArray) := by kernel_rfl
theorem pz59 : pZero Tryz.prog 59 = some (.agg (TChange.enc TChange.zero none 0).toArray) := by kernel_rfl
theorem fits48 (a b : TCube) : fits2 Tryz.prog 10000 48 (TCube.enc a) (TCube.enc b) = true := by kernel_rfl
theorem eqg48 : Tryz.prog.eqGuardType Tryz.prog.depth 48 = false := by kernel_rfl
theorem eq48 {a : Act} {W : World} {n : Nat} {L : List (Nat × Value)} (hF : FH n L a) {x y : Operand} {p q : TCube} {U : TypeId} (hx : lkO L x = some (.agg (TCube.enc p).toArray)) (hy : lkO L y = some (.agg (TCube.enc q).toArray)) :
    Val Tryz.prog a W (.binOp .eql 48 x y U) (.bool (cellsEq (TCube.enc p) (TCube.enc q))) ∧ Val Tryz.prog a W (.binOp .neq 48 x y U) (.bool (!(cellsEq (TCube.enc p) (TCube.enc q)))) :=
  bin_agg hF hx hy Tryz.underlying48 rfl eqg48 (fits48 p q) rfl
theorem fits152 (a b : TAct) : fits2 Tryz.prog 10000 152 (TAct.enc a) (TAct.enc b) = true := by kernel_rfl
theorem eqg152 : Tryz.prog.eqGuardType Tryz.prog.depth 152 = false := by kernel_rfl
theorem eq152 {a : Act} {W : World} {n : Nat} {L : List (Nat × Value)} (hF : FH n L a) {x y : Operand} {p q : TAct} {U : TypeId} (hx : lkO L x = some (.agg (TAct.enc p).toArray)) (hy : lkO L y = some (.agg (TAct.enc q).toArray)) :
    Val Tryz.prog a W (.binOp .eql 152 x y U) (.bool (cellsEq (TAct.enc p) (TAct.enc q))) ∧ Val Tryz.prog a W (.binOp .neq 152 x y U) (.bool (!(cellsEq (TAct.enc p) (TAct.enc q)))) :=
  bin_agg hF hx hy Tryz.underlying152 rfl eqg152 (fits152 p q) rfl
end Go.Proofs.YtgfnkigoaajllaaGreat
