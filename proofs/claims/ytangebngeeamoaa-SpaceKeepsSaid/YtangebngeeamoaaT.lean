/- Closed facts on the program's table of types and functions. -/
import Derived.Test.YtangebngeeamoaaD
import Derived.Test.YtangebngeeamoaaProg
import Derived.KernelRfl
set_option linter.unusedVariables false
set_option linter.unusedSimpArgs false
set_option maxRecDepth 100000
set_option maxHeartbeats 4000000
namespace Go.Proofs.Ytangebngeeamoaa
open Go.RowKit Go.Pod
theorem pa120 : pAgg Try.prog 120 = some true := by kernel_rfl
theorem pa121 : pAgg Try.prog 121 = some true := by kernel_rfl
theorem pa22 : pAgg Try.prog 22 = some false := by kernel_rfl
theorem pa24 : pAgg Try.prog 24 = some true := by kernel_rfl
theorem pa26 : pAgg Try.prog 26 = some true := by kernel_rfl
theorem pa3 : pAgg Try.prog 3 = some false := by kernel_rfl
theorem pa4 : pAgg Try.prog 4 = some false := by kernel_rfl
theorem par121 : pArr Try.prog 121 = some (12, 120, 2) := by kernel_rfl
theorem par24 : pArr Try.prog 24 = some (12, 22, 1) := by kernel_rfl
theorem pb26 : pBy Try.prog 26 = some 192 := by kernel_rfl
theorem pb4 : pBy Try.prog 4 = some 1 := by kernel_rfl
theorem pb5 : pBy Try.prog 5 = some 1 := by kernel_rfl
theorem pc100 : pCall Try.prog 100 = true := by kernel_rfl
theorem pc101 : pCall Try.prog 101 = true := by kernel_rfl
theorem pc102 : pCall Try.prog 102 = true := by kernel_rfl
theorem pc103 : pCall Try.prog 103 = true := by kernel_rfl
theorem pc104 : pCall Try.prog 104 = true := by kernel_rfl
theorem pc109 : pCall Try.prog 109 = true := by kernel_rfl
theorem pc110 : pCall Try.prog 110 = true := by kernel_rfl
theorem pc111 : pCall Try.prog 111 = true := by kernel_rfl
theorem pc112 : pCall Try.prog 112 = true := by kernel_rfl
theorem pc113 : pCall Try.prog 113 = true := by kernel_rfl
theorem pc114 : pCall Try.prog 114 = true := by kernel_rfl
theorem pc12 : pCall Try.prog 12 = true := by kernel_rfl
theorem pc138 : pCall Try.prog 138 = true := by kernel_rfl
theorem pc14 : pCall Try.prog 14 = true := by kernel_rfl
theorem pc141 : pCall Try.prog 141 = true := by kernel_rfl
theorem pc143 : pCall Try.prog 143 = true := by kernel_rfl
theorem pc144 : pCall Try.prog 144 = true := by kernel_rfl
theorem pc15 : pCall Try.prog 15 = true := by kernel_rfl
theorem pc16 : pCall Try.prog 16 = true := by kernel_rfl
theorem pc17 : pCall Try.prog 17 = true := by kernel_rfl
theorem pc172 : pCall Try.prog 172 = true := by kernel_rfl
theorem pc173 : pCall Try.prog 173 = true := by kernel_rfl
theorem pc194 : pCall Try.prog 194 = true := by kernel_rfl
theorem pc20 : pCall Try.prog 20 = true := by kernel_rfl
theorem pc21 : pCall Try.prog 21 = true := by kernel_rfl
theorem pc36 : pCall Try.prog 36 = true := by kernel_rfl
theorem pc37 : pCall Try.prog 37 = true := by kernel_rfl
theorem pc38 : pCall Try.prog 38 = true := by kernel_rfl
theorem pc39 : pCall Try.prog 39 = true := by kernel_rfl
theorem pc40 : pCall Try.prog 40 = true := by kernel_rfl
theorem pc41 : pCall Try.prog 41 = true := by kernel_rfl
theorem pc42 : pCall Try.prog 42 = true := by kernel_rfl
theorem pc43 : pCall Try.prog 43 = true := by kernel_rfl
theorem pc44 : pCall Try.prog 44 = true := by kernel_rfl
theorem pc45 : pCall Try.prog 45 = true := by kernel_rfl
theorem pc46 : pCall Try.prog 46 = true := by kernel_rfl
theorem pc54 : pCall Try.prog 54 = true := by kernel_rfl
theorem pc55 : pCall Try.prog 55 = true := by kernel_rfl
theorem pc57 : pCall Try.prog 57 = true := by kernel_rfl
theorem pc58 : pCall Try.prog 58 = true := by kernel_rfl
theorem pc59 : pCall Try.prog 59 = true := by kernel_rfl
theorem pc60 : pCall Try.prog 60 = true := by kernel_rfl
theorem pc61 : pCall Try.prog 61 = true := by kernel_rfl
theorem pc64 : pCall Try.prog 64 = true := by kernel_rfl
theorem pc91 : pCall Try.prog 91 = true := by kernel_rfl
theorem pc92 : pCall Try.prog 92 = true := by kernel_rfl
theorem pc93 : pCall Try.prog 93 = true := by kernel_rfl
theorem pc94 : pCall Try.prog 94 = true := by kernel_rfl
theorem pc95 : pCall Try.prog 95 = true := by kernel_rfl
theorem pc96 : pCall Try.prog 96 = true := by kernel_rfl
theorem pc97 : pCall Try.prog 97 = true := by kernel_rfl
theorem pc98 : pCall Try.prog 98 = true := by kernel_rfl
theorem pc99 : pCall Try.prog 99 = true := by kernel_rfl
theorem pf26_0 : pFld Try.prog 26 0 = some 0 := by kernel_rfl
theorem pf26_1 : pFld Try.prog 26 1 = some 12 := by kernel_rfl
theorem pft120_1 : pFldT Try.prog 120 1 = some (3, 1) := by kernel_rfl
theorem pp120 : pPlaces Try.prog 120 = some [(0, 1), (1, 1)] := by kernel_rfl
theorem pp26 : pPlaces Try.prog 26 = some [(0, 12), (12, 12)] := by kernel_rfl
theorem ps121 : pSz Try.prog 121 = some 24 := by kernel_rfl
theorem ps22 : pSz Try.prog 22 = some 1 := by kernel_rfl
theorem ps24 : pSz Try.prog 24 = some 12 := by kernel_rfl
theorem ps26 : pSz Try.prog 26 = some 24 := by kernel_rfl
theorem psl116 : pSlc Try.prog 116 = some (4, 1) := by kernel_rfl
theorem psl166 : pSlc Try.prog 166 = some (22, 1) := by kernel_rfl
theorem psl29 : pSlc Try.prog 29 = some (26, 24) := by kernel_rfl
theorem psl76 : pSlc Try.prog 76 = some (3, 1) := by kernel_rfl
theorem psl82 : pSlc Try.prog 82 = some (5, 1) := by kernel_rfl
theorem pu116 : Try.prog.underlying 116 = some (.slice 4) := by kernel_rfl
theorem pu137 : Try.prog.underlying 137 = some (.int .u64) := by kernel_rfl
theorem pu166 : Try.prog.underlying 166 = some (.slice 22) := by kernel_rfl
theorem pu29 : Try.prog.underlying 29 = some (.slice 26) := by kernel_rfl
theorem pu3 : Try.prog.underlying 3 = some (.int .i64) := by kernel_rfl
theorem pu4 : Try.prog.underlying 4 = some .bool := by kernel_rfl
theorem pu5 : Try.prog.underlying 5 = some (.int .u8) := by kernel_rfl
theorem pu76 : Try.prog.underlying 76 = some (.slice 3) := by kernel_rfl
theorem pu82 : Try.prog.underlying 82 = some (.slice 5) := by kernel_rfl
theorem pu9 : Try.prog.underlying 9 = some .string := by kernel_rfl
theorem pz120 : pZero Try.prog 120 = some (.agg (Thead_field.enc Thead_field.zero).toArray) := by kernel_rfl
theorem pz121 : pZero Try.prog 121 = some (.agg (A12Thead_field.enc A12Thead_field.zero).toArray) := by kernel_rfl
theorem pz24 : pZero Try.prog 24 = some (.agg (A12u64.enc A12u64.zero).toArray) := by kernel_rfl
theorem pz26 : pZero Try.prog 26 = some (.agg (TCube.enc TCube.zero).toArray) := by kernel_rfl
theorem pz3 : pZero Try.prog 3 = some (.int .i64 0) := by kernel_rfl
theorem pz4 : pZero Try.prog 4 = some (.bool false) := by kernel_rfl
theorem pz5 : pZero Try.prog 5 = some (.int .u8 0) := by kernel_rfl
theorem fits26 (a b : TCube) : fits2 Try.prog 10000 26 (TCube.enc a) (TCube.enc b) = true := by kernel_rfl
theorem eqg26 : Try.prog.eqGuardType Try.prog.depth 26 = false := by kernel_rfl
theorem eq26 {a : Act} {W : World} {n : Nat} {L : List (Nat × Value)} (hF : FH n L a) {x y : Operand} {p q : TCube} {U : TypeId} (hx : lkO L x = some (.agg (TCube.enc p).toArray)) (hy : lkO L y = some (.agg (TCube.enc q).toArray)) :
    Val Try.prog a W (.binOp .eql 26 x y U) (.bool (cellsEq (TCube.enc p) (TCube.enc q))) ∧ Val Try.prog a W (.binOp .neq 26 x y U) (.bool (!(cellsEq (TCube.enc p) (TCube.enc q)))) :=
  bin_agg hF hx hy Try.underlying26 rfl eqg26 (fits26 p q) rfl
end Go.Proofs.Ytangebngeeamoaa
