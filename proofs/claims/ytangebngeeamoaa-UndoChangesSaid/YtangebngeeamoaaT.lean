/- Closed facts on the program's table of types and functions. -/
import Derived.Test.YtangebngeeamoaaD
import Derived.Test.YtangebngeeamoaaProg
import Derived.KernelRfl
set_option linter.unusedVariables false
set_option linter.unusedSimpArgs false
set_option maxRecDepth 100000
set_option maxHeartbeats 4000000
namespace Go.Proofs.Ytangebngeeamoaa
open Go.RowKit Go.Pod
theorem pa120 : pAgg Try.prog 120 = some true := by kernel_rfl
theorem pa121 : pAgg Try.prog 121 = some true := by kernel_rfl
theorem pa22 : pAgg Try.prog 22 = some false := by kernel_rfl
theorem pa24 : pAgg Try.prog 24 = some true := by kernel_rfl
theorem pa26 : pAgg Try.prog 26 = some true := by kernel_rfl
theorem pa3 : pAgg Try.prog 3 = some false := by kernel_rfl
theorem pa37 : pAgg Try.prog 37 = some false := by kernel_rfl
theorem pa38 : pAgg Try.prog 38 = some false := by kernel_rfl
theorem pa4 : pAgg Try.prog 4 = some false := by kernel_rfl
theorem pa40 : pAgg Try.prog 40 = some true := by kernel_rfl
theorem pa51 : pAgg Try.prog 51 = some true := by kernel_rfl
theorem pa65 : pAgg Try.prog 65 = some true := by kernel_rfl
theorem pa94 : pAgg Try.prog 94 = some true := by kernel_rfl
theorem par121 : pArr Try.prog 121 = some (12, 120, 2) := by kernel_rfl
theorem par24 : pArr Try.prog 24 = some (12, 22, 1) := by kernel_rfl
theorem pb3 : pBy Try.prog 3 = some 8 := by kernel_rfl
theorem pb4 : pBy Try.prog 4 = some 1 := by kernel_rfl
theorem pb5 : pBy Try.prog 5 = some 1 := by kernel_rfl
theorem pb51 : pBy Try.prog 51 = some 48 := by kernel_rfl
theorem pb65 : pBy Try.prog 65 = some 272 := by kernel_rfl
theorem pb94 : pBy Try.prog 94 = some 32 := by kernel_rfl
theorem pc102 : pCall Try.prog 102 = true := by kernel_rfl
theorem pc108 : pCall Try.prog 108 = true := by kernel_rfl
theorem pc109 : pCall Try.prog 109 = true := by kernel_rfl
theorem pc110 : pCall Try.prog 110 = true := by kernel_rfl
theorem pc111 : pCall Try.prog 111 = true := by kernel_rfl
theorem pc112 : pCall Try.prog 112 = true := by kernel_rfl
theorem pc113 : pCall Try.prog 113 = true := by kernel_rfl
theorem pc114 : pCall Try.prog 114 = true := by kernel_rfl
theorem pc115 : pCall Try.prog 115 = true := by kernel_rfl
theorem pc117 : pCall Try.prog 117 = true := by kernel_rfl
theorem pc118 : pCall Try.prog 118 = true := by kernel_rfl
theorem pc119 : pCall Try.prog 119 = true := by kernel_rfl
theorem pc12 : pCall Try.prog 12 = true := by kernel_rfl
theorem pc120 : pCall Try.prog 120 = true := by kernel_rfl
theorem pc121 : pCall Try.prog 121 = true := by kernel_rfl
theorem pc122 : pCall Try.prog 122 = true := by kernel_rfl
theorem pc123 : pCall Try.prog 123 = true := by kernel_rfl
theorem pc124 : pCall Try.prog 124 = true := by kernel_rfl
theorem pc125 : pCall Try.prog 125 = true := by kernel_rfl
theorem pc126 : pCall Try.prog 126 = true := by kernel_rfl
theorem pc127 : pCall Try.prog 127 = true := by kernel_rfl
theorem pc128 : pCall Try.prog 128 = true := by kernel_rfl
theorem pc129 : pCall Try.prog 129 = true := by kernel_rfl
theorem pc13 : pCall Try.prog 13 = true := by kernel_rfl
theorem pc130 : pCall Try.prog 130 = true := by kernel_rfl
theorem pc131 : pCall Try.prog 131 = true := by kernel_rfl
theorem pc132 : pCall Try.prog 132 = true := by kernel_rfl
theorem pc133 : pCall Try.prog 133 = true := by kernel_rfl
theorem pc138 : pCall Try.prog 138 = true := by kernel_rfl
theorem pc143 : pCall Try.prog 143 = true := by kernel_rfl
theorem pc144 : pCall Try.prog 144 = true := by kernel_rfl
theorem pc146 : pCall Try.prog 146 = true := by kernel_rfl
theorem pc147 : pCall Try.prog 147 = true := by kernel_rfl
theorem pc148 : pCall Try.prog 148 = true := by kernel_rfl
theorem pc149 : pCall Try.prog 149 = true := by kernel_rfl
theorem pc150 : pCall Try.prog 150 = true := by kernel_rfl
theorem pc151 : pCall Try.prog 151 = true := by kernel_rfl
theorem pc152 : pCall Try.prog 152 = true := by kernel_rfl
theorem pc17 : pCall Try.prog 17 = true := by kernel_rfl
theorem pc172 : pCall Try.prog 172 = true := by kernel_rfl
theorem pc173 : pCall Try.prog 173 = true := by kernel_rfl
theorem pc185 : pCall Try.prog 185 = true := by kernel_rfl
theorem pc19 : pCall Try.prog 19 = true := by kernel_rfl
theorem pc194 : pCall Try.prog 194 = true := by kernel_rfl
theorem pc199 : pCall Try.prog 199 = true := by kernel_rfl
theorem pc20 : pCall Try.prog 20 = true := by kernel_rfl
theorem pc24 : pCall Try.prog 24 = true := by kernel_rfl
theorem pc25 : pCall Try.prog 25 = true := by kernel_rfl
theorem pc26 : pCall Try.prog 26 = true := by kernel_rfl
theorem pc27 : pCall Try.prog 27 = true := by kernel_rfl
theorem pc28 : pCall Try.prog 28 = true := by kernel_rfl
theorem pc29 : pCall Try.prog 29 = true := by kernel_rfl
theorem pc30 : pCall Try.prog 30 = true := by kernel_rfl
theorem pc31 : pCall Try.prog 31 = true := by kernel_rfl
theorem pc32 : pCall Try.prog 32 = true := by kernel_rfl
theorem pc54 : pCall Try.prog 54 = true := by kernel_rfl
theorem pc55 : pCall Try.prog 55 = true := by kernel_rfl
theorem pc56 : pCall Try.prog 56 = true := by kernel_rfl
theorem pc57 : pCall Try.prog 57 = true := by kernel_rfl
theorem pc58 : pCall Try.prog 58 = true := by kernel_rfl
theorem pc59 : pCall Try.prog 59 = true := by kernel_rfl
theorem pc61 : pCall Try.prog 61 = true := by kernel_rfl
theorem pc64 : pCall Try.prog 64 = true := by kernel_rfl
theorem pc65 : pCall Try.prog 65 = true := by kernel_rfl
theorem pc66 : pCall Try.prog 66 = true := by kernel_rfl
theorem pc67 : pCall Try.prog 67 = true := by kernel_rfl
theorem pc68 : pCall Try.prog 68 = true := by kernel_rfl
theorem pc69 : pCall Try.prog 69 = true := by kernel_rfl
theorem pc70 : pCall Try.prog 70 = true := by kernel_rfl
theorem pc71 : pCall Try.prog 71 = true := by kernel_rfl
theorem pc72 : pCall Try.prog 72 = true := by kernel_rfl
theorem pc73 : pCall Try.prog 73 = true := by kernel_rfl
theorem pc74 : pCall Try.prog 74 = true := by kernel_rfl
theorem pc75 : pCall Try.prog 75 = true := by kernel_rfl
theorem pc76 : pCall Try.prog 76 = true := by kernel_rfl
theorem pc77 : pCall Try.prog 77 = true := by kernel_rfl
theorem pc78 : pCall Try.prog 78 = true := by kernel_rfl
theorem pc79 : pCall Try.prog 79 = true := by kernel_rfl
theorem pc80 : pCall Try.prog 80 = true := by kernel_rfl
theorem pc81 : pCall Try.prog 81 = true := by kernel_rfl
theorem pc82 : pCall Try.prog 82 = true := by kernel_rfl
theorem pc83 : pCall Try.prog 83 = true := by kernel_rfl
theorem pc84 : pCall Try.prog 84 = true := by kernel_rfl
theorem pc95 : pCall Try.prog 95 = true := by kernel_rfl
theorem pf26_0 : pFld Try.prog 26 0 = some 0 := by kernel_rfl
theorem pf26_1 : pFld Try.prog 26 1 = some 12 := by kernel_rfl
theorem pf40_0 : pFld Try.prog 40 0 = some 0 := by kernel_rfl
theorem pf40_1 : pFld Try.prog 40 1 = some 1 := by kernel_rfl
theorem pf40_2 : pFld Try.prog 40 2 = some 25 := by kernel_rfl
theorem pf40_3 : pFld Try.prog 40 3 = some 26 := by kernel_rfl
theorem pf40_4 : pFld Try.prog 40 4 = some 27 := by kernel_rfl
theorem pf40_5 : pFld Try.prog 40 5 = some 28 := by kernel_rfl
theorem pf40_6 : pFld Try.prog 40 6 = some 29 := by kernel_rfl
theorem pf40_7 : pFld Try.prog 40 7 = some 30 := by kernel_rfl
theorem pf51_0 : pFld Try.prog 51 0 = some 0 := by kernel_rfl
theorem pf51_1 : pFld Try.prog 51 1 = some 1 := by kernel_rfl
theorem pf65_0 : pFld Try.prog 65 0 = some 0 := by kernel_rfl
theorem pf65_1 : pFld Try.prog 65 1 = some 24 := by kernel_rfl
theorem pf65_2 : pFld Try.prog 65 2 = some 25 := by kernel_rfl
theorem pf65_3 : pFld Try.prog 65 3 = some 26 := by kernel_rfl
theorem pf65_4 : pFld Try.prog 65 4 = some 27 := by kernel_rfl
theorem pf65_5 : pFld Try.prog 65 5 = some 28 := by kernel_rfl
theorem pf65_6 : pFld Try.prog 65 6 = some 29 := by kernel_rfl
theorem pf65_7 : pFld Try.prog 65 7 = some 30 := by kernel_rfl
theorem pf65_8 : pFld Try.prog 65 8 = some 31 := by kernel_rfl
theorem pf94_0 : pFld Try.prog 94 0 = some 0 := by kernel_rfl
theorem pf94_1 : pFld Try.prog 94 1 = some 1 := by kernel_rfl
theorem pf94_2 : pFld Try.prog 94 2 = some 2 := by kernel_rfl
theorem pf94_3 : pFld Try.prog 94 3 = some 3 := by kernel_rfl
theorem pft120_1 : pFldT Try.prog 120 1 = some (3, 1) := by kernel_rfl
theorem pp120 : pPlaces Try.prog 120 = some [(0, 1), (1, 1)] := by kernel_rfl
theorem pp26 : pPlaces Try.prog 26 = some [(0, 12), (12, 12)] := by kernel_rfl
theorem pp40 : pPlaces Try.prog 40 = some [(0, 1), (1, 24), (25, 1), (26, 1), (27, 1), (28, 1), (29, 1), (30, 1)] := by kernel_rfl
theorem pp51 : pPlaces Try.prog 51 = some [(0, 1), (1, 1)] := by kernel_rfl
theorem pp65 : pPlaces Try.prog 65 = some [(0, 24), (24, 1), (25, 1), (26, 1), (27, 1), (28, 1), (29, 1), (30, 1), (31, 1)] := by kernel_rfl
theorem pp94 : pPlaces Try.prog 94 = some [(0, 1), (1, 1), (2, 1), (3, 1)] := by kernel_rfl
theorem ps121 : pSz Try.prog 121 = some 24 := by kernel_rfl
theorem ps22 : pSz Try.prog 22 = some 1 := by kernel_rfl
theorem ps24 : pSz Try.prog 24 = some 12 := by kernel_rfl
theorem ps26 : pSz Try.prog 26 = some 24 := by kernel_rfl
theorem ps38 : pSz Try.prog 38 = some 1 := by kernel_rfl
theorem ps40 : pSz Try.prog 40 = some 31 := by kernel_rfl
theorem ps5 : pSz Try.prog 5 = some 1 := by kernel_rfl
theorem ps51 : pSz Try.prog 51 = some 2 := by kernel_rfl
theorem ps65 : pSz Try.prog 65 = some 32 := by kernel_rfl
theorem ps94 : pSz Try.prog 94 = some 4 := by kernel_rfl
theorem psl116 : pSlc Try.prog 116 = some (4, 1) := by kernel_rfl
theorem psl166 : pSlc Try.prog 166 = some (22, 1) := by kernel_rfl
theorem psl37 : pSlc Try.prog 37 = some (65, 32) := by kernel_rfl
theorem psl38 : pSlc Try.prog 38 = some (94, 4) := by kernel_rfl
theorem psl48 : pSlc Try.prog 48 = some (40, 31) := by kernel_rfl
theorem psl49 : pSlc Try.prog 49 = some (51, 2) := by kernel_rfl
theorem psl76 : pSlc Try.prog 76 = some (3, 1) := by kernel_rfl
theorem psl82 : pSlc Try.prog 82 = some (5, 1) := by kernel_rfl
theorem pu116 : Try.prog.underlying 116 = some (.slice 4) := by kernel_rfl
theorem pu137 : Try.prog.underlying 137 = some (.int .u64) := by kernel_rfl
theorem pu166 : Try.prog.underlying 166 = some (.slice 22) := by kernel_rfl
theorem pu3 : Try.prog.underlying 3 = some (.int .i64) := by kernel_rfl
theorem pu37 : Try.prog.underlying 37 = some (.slice 65) := by kernel_rfl
theorem pu38 : Try.prog.underlying 38 = some (.slice 94) := by kernel_rfl
theorem pu48 : Try.prog.underlying 48 = some (.slice 40) := by kernel_rfl
theorem pu49 : Try.prog.underlying 49 = some (.slice 51) := by kernel_rfl
theorem pu5 : Try.prog.underlying 5 = some (.int .u8) := by kernel_rfl
theorem pu76 : Try.prog.underlying 76 = some (.slice 3) := by kernel_rfl
theorem pu82 : Try.prog.underlying 82 = some (.slice 5) := by kernel_rfl
theorem pu9 : Try.prog.underlying 9 = some .string := by kernel_rfl
theorem pz120 : pZero Try.prog 120 = some (.agg (Thead_field.enc Thead_field.zero).toArray) := by kernel_rfl
theorem pz121 : pZero Try.prog 121 = some (.agg (A12Thead_field.enc A12Thead_field.zero).toArray) := by kernel_rfl
theorem pz24 : pZero Try.prog 24 = some (.agg (A12u64.enc A12u64.zero).toArray) := by kernel_rfl
theorem pz26 : pZero Try.prog 26 = some (.agg (TCube.enc TCube.zero).toArray) := by kernel_rfl
theorem pz3 : pZero Try.prog 3 = some (.int .i64 0) := by kernel_rfl
theorem pz4 : pZero Try.prog 4 = some (.bool false) := by kernel_rfl
theorem pz40 : pZero Try.prog 40 = some (.agg (TMod.enc TMod.zero none 0).toArray) := by kernel_rfl
theorem pz5 : pZero Try.prog 5 = some (.int .u8 0) := by kernel_rfl
theorem pz51 : pZero Try.prog 51 = some (.agg (Tundo_Patch.enc Tundo_Patch.zero none 0 none 0).toArray) := by kernel_rfl
theorem pz65 : pZero Try.prog 65 = some (.agg (TRule.enc TRule.zero none 0).toArray) := by kernel_rfl
theorem pz94 : pZero Try.prog 94 = some (.agg (TAct.enc TAct.zero).toArray) := by kernel_rfl
theorem fits26 (a b : TCube) : fits2 Try.prog 10000 26 (TCube.enc a) (TCube.enc b) = true := by kernel_rfl
theorem eqg26 : Try.prog.eqGuardType Try.prog.depth 26 = false := by kernel_rfl
theorem eq26 {a : Act} {W : World} {n : Nat} {L : List (Nat × Value)} (hF : FH n L a) {x y : Operand} {p q : TCube} {U : TypeId} (hx : lkO L x = some (.agg (TCube.enc p).toArray)) (hy : lkO L y = some (.agg (TCube.enc q).toArray)) :
    Val Try.prog a W (.binOp .eql 26 x y U) (.bool (cellsEq (TCube.enc p) (TCube.enc q))) ∧ Val Try.prog a W (.binOp .neq 26 x y U) (.bool (!(cellsEq (TCube.enc p) (TCube.enc q)))) :=
  bin_agg hF hx hy Try.underlying26 rfl eqg26 (fits26 p q) rfl
theorem fits94 (a b : TAct) : fits2 Try.prog 10000 94 (TAct.enc a) (TAct.enc b) = true := by kernel_rfl
theorem eqg94 : Try.prog.eqGuardType Try.prog.depth 94 = false := by kernel_rfl
theorem eq94 {a : Act} {W : World} {n : Nat} {L : List (Nat × Value)} (hF : FH n L a) {x y : Operand} {p q : TAct} {U : TypeId} (hx : lkO L x = some (.agg (TAct.enc p).toArray)) (hy : lkO L y = some (.agg (TAct.enc q).toArray)) :
    Val Try.prog a W (.binOp .eql 94 x y U) (.bool (cellsEq (TAct.enc p) (TAct.enc q))) ∧ Val Try.prog a W (.binOp .neq 94 x y U) (.bool (!(cellsEq (TAct.enc p) (TAct.enc q)))) :=
  bin_agg hF hx hy Try.underlying94 rfl eqg94 (fits94 p q) rfl
end Go.Proofs.Ytangebngeeamoaa
