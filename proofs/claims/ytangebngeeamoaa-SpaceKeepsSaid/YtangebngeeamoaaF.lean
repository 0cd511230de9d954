/- Plain functions with the same answers as the Go functions. -/
import Derived.Test.YtangebngeeamoaaD
set_option linter.unusedVariables false
set_option linter.unusedSimpArgs false
set_option maxRecDepth 100000
set_option maxHeartbeats 4000000
namespace Go.Proofs.Ytangebngeeamoaa
open Go.RowKit Go.Pod
def slices_IndexFunc_Cube.l0 (k : Nat) (u0 : List TCube) (u1 : TCube → Option Bool) : Nat → Int → Option (Lo Int Unit)
  | 0, _ => none
  | m + 1, x2 =>
    (if (decide (x2 < (u0.length : Int))) then ((idx u0 x2).bind fun x7 =>
      ((u1 x7).bind fun x13 =>
      (if x13 then some (Lo.ret x2)
      else slices_IndexFunc_Cube.l0 k u0 u1 m (IntKind.i64.wrap (x2 + 1)))))
    else some (Lo.brk ()))
def slices_IndexFunc_Cube (k : Nat) (u0 : List TCube) (u1 : TCube → Option Bool) : Option Int :=
  ((slices_IndexFunc_Cube.l0 k u0 u1 k 0).bind fun (o : Lo Int Unit) => match o with
  | .ret r => some r
  | .brk _ => some (-1))
def slices_ContainsFunc_Cube (k : Nat) (u0 : List TCube) (u1 : TCube → Option Bool) : Option Bool :=
  ((slices_IndexFunc_Cube k u0 u1).bind fun x1 =>
  some (decide (0 ≤ x1)))
def head_there (u0 : Int) : Option Bool :=
  some ((decide (0 ≤ u0)) && (decide (u0 < 12)))
def head_fields  : Option (Fin 12 → Thead_field) :=
  some ((fun q => bif Nat.beq q.val 0 then ({ name_ := (ByteArray.mk #[105, 110]), size_ := 16 } : Thead_field) else bif Nat.beq q.val 1 then ({ name_ := (ByteArray.mk #[101, 115, 114, 99]), size_ := 48 } : Thead_field) else bif Nat.beq q.val 2 then ({ name_ := (ByteArray.mk #[101, 100, 115, 116]), size_ := 48 } : Thead_field) else bif Nat.beq q.val 3 then ({ name_ := (ByteArray.mk #[101, 116, 121, 112, 101]), size_ := 16 } : Thead_field) else bif Nat.beq q.val 4 then ({ name_ := (ByteArray.mk #[118, 108, 97, 110]), size_ := 12 } : Thead_field) else bif Nat.beq q.val 5 then ({ name_ := (ByteArray.mk #[112, 99, 112]), size_ := 4 } : Thead_field) else bif Nat.beq q.val 6 then ({ name_ := (ByteArray.mk #[115, 114, 99]), size_ := 32 } : Thead_field) else bif Nat.beq q.val 7 then ({ name_ := (ByteArray.mk #[100, 115, 116]), size_ := 32 } : Thead_field) else bif Nat.beq q.val 8 then ({ name_ := (ByteArray.mk #[112, 114, 111, 116, 111]), size_ := 8 } : Thead_field) else bif Nat.beq q.val 9 then ({ name_ := (ByteArray.mk #[116, 111, 115]), size_ := 8 } : Thead_field) else bif Nat.beq q.val 10 then ({ name_ := (ByteArray.mk #[115, 112, 111, 114, 116]), size_ := 12 } : Thead_field) else bif Nat.beq q.val 11 then ({ name_ := (ByteArray.mk #[100, 112, 111, 114, 116]), size_ := 12 } : Thead_field) else Thead_field.zero) : Fin 12 → Thead_field)
def head_Size (u0 : Int) : Option Int :=
  ((head_there u0).bind fun x1 =>
  (if (!x1) then some 0
  else ((head_fields).bind fun x5 =>
    (if 0 ≤ u0 ∧ u0 < 12 then some ((atA Thead_field.zero x5 u0).size_) else none))))
def head_fits (u0 : Int) (u1 : Int) : Option Bool :=
  ((head_Size u0).bind fun x1 =>
  (if 0 ≤ x1 then some ((bShr .u64 u1 x1) == 0) else none))
def head_Sound.l0 (k : Nat) (u0 : Arr 12) : Nat → Int → Option (Lo Bool Unit)
  | 0, _ => none
  | m + 1, x3 =>
    (if (decide (x3 < 12)) then (if 0 ≤ x3 ∧ x3 < 12 then ((head_fits x3 (u0.at x3)).bind fun x9 =>
      (if (!x9) then some (Lo.ret false)
      else head_Sound.l0 k u0 m (IntKind.i64.wrap (x3 + 1)))) else none)
    else some (Lo.brk ()))
def head_Sound (k : Nat) (u0 : Arr 12) : Option Bool :=
  ((head_Sound.l0 k u0 k 0).bind fun (o : Lo Bool Unit) => match o with
  | .ret r => some r
  | .brk _ => some true)
def cube_Sound.l0 (k : Nat) (u0 : TCube) : Nat → Int → Option (Lo Bool Unit)
  | 0, _ => none
  | m + 1, x7 =>
    (if (decide (x7 < 12)) then (if 0 ≤ x7 ∧ x7 < 12 then (if ((bAndNot .u64 (u0.Value.at x7) (u0.Care.at x7)) != 0) then some (Lo.ret false)
      else cube_Sound.l0 k u0 m (IntKind.i64.wrap (x7 + 1))) else none)
    else some (Lo.brk ()))
def cube_Sound (k : Nat) (u0 : TCube) : Option Bool :=
  ((head_Sound k u0.Care).bind fun x2 =>
  (if (!x2) then some false
  else ((cube_Sound.l0 k u0 k 0).bind fun (o : Lo Bool Unit) => match o with
    | .ret r => some r
    | .brk _ => some true)))
def space_Sound_1 (k : Nat) (u0 : TCube) : Option Bool :=
  ((cube_Sound k u0).bind fun x2 =>
  some (!x2))
def space_Sound (k : Nat) (u0 : List TCube) : Option Bool :=
  ((if (decide ((u0.length : Int) ≤ 64)) then ((slices_ContainsFunc_Cube k u0 (fun (a0 : TCube) => space_Sound_1 k a0)).bind fun x5 =>
    some (!x5))
  else some false).bind fun (x2 : Bool) =>
  some x2)
def slices_Clone_Cube (u0 : List TCube) : Option (List TCube) :=
  ((app 192 ([] : List TCube) u0).bind fun x6 =>
  some x6)
def slices_DeleteFunc_Cube.l0 (k : Nat) (u1 : TCube → Option Bool) : Nat → (List TCube) → Int → Int → Option ((List TCube) × Int)
  | 0, _, _, _ => none
  | m + 1, x10, x11, x12 =>
    (if (decide (x12 < (x10.length : Int))) then (((idx x10 x12).bind fun x25 =>
      ((u1 x25).bind fun x34 =>
      ((if (!x34) then ((idx x10 x11).bind fun x42 =>
        some ((x10.set x11.toNat x25), (IntKind.i64.wrap (x11 + 1))))
      else some (x10, x11)).bind fun (o : (List TCube) × Int) => match o with
      | (x37, x38) => some (x37, x38)))).bind fun (o : (List TCube) × Int) => match o with
      | (x21, x22) => slices_DeleteFunc_Cube.l0 k u1 m x21 x22 (IntKind.i64.wrap (x12 + 1)))
    else some (x10, x11))
def slices_DeleteFunc_Cube (k : Nat) (u0 : List TCube) (u1 : TCube → Option Bool) : Option (List TCube) :=
  ((slices_IndexFunc_Cube k u0 u1).bind fun x1 =>
  (if (x1 == (-1)) then some u0
  else ((slices_DeleteFunc_Cube.l0 k u1 k u0 x1 (IntKind.i64.wrap (x1 + 1))).bind fun (o : (List TCube) × Int) => match o with
    | (x13, x14) => (if 0 ≤ x14 ∧ x14 ≤ (((x13).length : Nat) : Int) then some (x13.take x14.toNat) else none))))
def space_Lean_1 (k : Nat) (u0 : TCube) : Option Bool :=
  ((cube_Sound k u0).bind fun x2 =>
  some (!x2))
noncomputable def slices_SortFunc_Cube (u0 : List TCube) (u1 : TCube → TCube → Option Int) : Option (List TCube) := sortO u1 u0
def slices_CompareFunc_uint64.l0 (k : Nat) (u0 : List Int) (u1 : List Int) (u2 : Int → Int → Option Int) : Nat → Int → Option (Lo Int Unit)
  | 0, _ => none
  | m + 1, x2 =>
    (if (decide (x2 < (u0.length : Int))) then ((idx u0 x2).bind fun x8 =>
      (if (decide ((u1.length : Int) ≤ x2)) then some (Lo.ret 1)
      else ((idx u1 x2).bind fun x15 =>
        ((u2 x8 x15).bind fun x21 =>
        (if (x21 != 0) then some (Lo.ret x21)
        else slices_CompareFunc_uint64.l0 k u0 u1 u2 m (IntKind.i64.wrap (x2 + 1)))))))
    else some (Lo.brk ()))
def slices_CompareFunc_uint64 (k : Nat) (u0 : List Int) (u1 : List Int) (u2 : Int → Int → Option Int) : Option Int :=
  ((slices_CompareFunc_uint64.l0 k u0 u1 u2 k 0).bind fun (o : Lo Int Unit) => match o with
  | .ret r => some r
  | .brk _ => (if (decide ((u0.length : Int) < (u1.length : Int))) then some (-1)
    else some 0))
def cmp_isNaN_uint64 (u0 : Int) : Option Bool :=
  some (u0 != u0)
def cmp_Compare_uint64 (u0 : Int) (u1 : Int) : Option Int :=
  ((cmp_isNaN_uint64 u0).bind fun x1 =>
  ((cmp_isNaN_uint64 u1).bind fun x4 =>
  (if x1 then (if x4 then some 0
    else some (-1))
  else (if x4 then some 1
    else (if (decide (u0 < u1)) then some (-1)
      else (if (decide (u1 < u0)) then some 1
        else some 0))))))
def head_Compare (k : Nat) (u0 : Arr 12) (u1 : Arr 12) : Option Int :=
  ((slices_CompareFunc_uint64 k (A12u64.list u0) (A12u64.list u1) (fun (a0 : Int) (a1 : Int) => cmp_Compare_uint64 a0 a1)).bind fun x3 =>
  some x3)
def cmp_Or_int.l0 (k : Nat) (u0 : List Int) : Nat → Int → Option (Lo Int Unit)
  | 0, _ => none
  | m + 1, x2 =>
    (if (decide (x2 < (u0.length : Int))) then ((idx u0 x2).bind fun x7 =>
      (if (x7 != 0) then some (Lo.ret x7)
      else cmp_Or_int.l0 k u0 m (IntKind.i64.wrap (x2 + 1))))
    else some (Lo.brk ()))
def cmp_Or_int (k : Nat) (u0 : List Int) : Option Int :=
  ((cmp_Or_int.l0 k u0 k 0).bind fun (o : Lo Int Unit) => match o with
  | .ret r => some r
  | .brk _ => some 0)
def cube_Compare (k : Nat) (u0 : TCube) (u1 : TCube) : Option Int :=
  ((head_Compare k u0.Care u1.Care).bind fun x3 =>
  ((head_Compare k u0.Value u1.Value).bind fun x6 =>
  ((cmp_Or_int k ([x3, x6])).bind fun x11 =>
  some x11)))
def slices_Compact_Cube.l1 (k : Nat) (x3 : Int) : Nat → (List TCube) → Int → Int → Option ((List TCube) × Int)
  | 0, _, _, _ => none
  | m + 1, x31, x32, x33 =>
    (if (decide (x33 < ((x31.length - x3.toNat : Nat) : Int))) then (((idx (x31.drop x3.toNat) x33).bind fun x46 =>
      ((idx (x31.drop x3.toNat) (IntKind.i64.wrap (x33 - 1))).bind fun x54 =>
      ((if (!(cellsEq (TCube.enc x46) (TCube.enc x54))) then ((idx x31 x32).bind fun x73 =>
        some ((x31.set x32.toNat x46), (IntKind.i64.wrap (x32 + 1))))
      else some (x31, x32)).bind fun (o : (List TCube) × Int) => match o with
      | (x62, x63) => some (x62, x63)))).bind fun (o : (List TCube) × Int) => match o with
      | (x42, x43) => slices_Compact_Cube.l1 k x3 m x42 x43 (IntKind.i64.wrap (x33 + 1)))
    else some (x31, x32))
def slices_Compact_Cube.l0 (k : Nat) (u0 : List TCube) : Nat → Int → Option (Lo (List TCube) Unit)
  | 0, _ => none
  | m + 1, x3 =>
    (if (decide (x3 < (u0.length : Int))) then ((idx u0 x3).bind fun x8 =>
      ((idx u0 (IntKind.i64.wrap (x3 - 1))).bind fun x16 =>
      (if (cellsEq (TCube.enc x8) (TCube.enc x16)) then (if 0 ≤ x3 ∧ x3 ≤ (((u0).length : Nat) : Int) then ((slices_Compact_Cube.l1 k x3 k u0 x3 1).bind fun (o : (List TCube) × Int) => match o with
        | (x34, x35) => (if 0 ≤ x35 ∧ x35 ≤ (((x34).length : Nat) : Int) then some (Lo.ret (x34.take x35.toNat)) else none)) else none)
      else slices_Compact_Cube.l0 k u0 m (IntKind.i64.wrap (x3 + 1)))))
    else some (Lo.brk ()))
def slices_Compact_Cube (k : Nat) (u0 : List TCube) : Option (List TCube) :=
  (if (decide ((u0.length : Int) < 2)) then some u0
  else ((slices_Compact_Cube.l0 k u0 k 1).bind fun (o : Lo (List TCube) Unit) => match o with
    | .ret r => some r
    | .brk _ => some u0))
def space_wider.l0 (k : Nat) (u0 : TCube) (u1 : TCube) : Nat → Int → Option (Lo Bool Unit)
  | 0, _ => none
  | m + 1, x4 =>
    (if (decide (x4 < 12)) then (if 0 ≤ x4 ∧ x4 < 12 then (if (((bAndNot .u64 (u0.Care.at x4) (u1.Care.at x4)) != 0) || ((bAnd .u64 (bXor .u64 (u1.Value.at x4) (u0.Value.at x4)) (u0.Care.at x4)) != 0)) then some (Lo.ret false)
      else space_wider.l0 k u0 u1 m (IntKind.i64.wrap (x4 + 1))) else none)
    else some (Lo.brk ()))
def space_wider (k : Nat) (u0 : TCube) (u1 : TCube) : Option Bool :=
  ((space_wider.l0 k u0 u1 k 0).bind fun (o : Lo Bool Unit) => match o with
  | .ret r => some r
  | .brk _ => some true)
def space_Lean_2 (k : Nat) (u0 : TCube) (y0 : TCube) : Option Bool :=
  ((space_wider k u0 y0).bind fun x2 =>
  some (x2 && (!(cellsEq (TCube.enc u0) (TCube.enc y0)))))
noncomputable def space_Lean.l0 (k : Nat) (x12 : List TCube) : Nat → (List TCube) → (List TCube) → (List TCube) → Int → Option (List TCube)
  | 0, _, _, _, _ => none
  | m + 1, x30, x33, x36, x39 =>
    (if (decide (x39 < (x12.length : Int))) then (((idx x36 x39).bind fun x52 =>
      (if 0 ≤ 0 ∧ 0 ≤ x39 ∧ x39 ≤ x30.length then ((slices_ContainsFunc_Cube k ((x30.take x39.toNat).drop 0) (fun (a0 : TCube) => space_Lean_2 k a0 x52)).bind fun x63 =>
      ((if (!x63) then (if 0 ≤ x39 ∧ x39 ≤ (x30.length : Int) ∧ (x30.length : Int) ≤ x30.length then ((slices_ContainsFunc_Cube k ((x30.take x30.length).drop x39.toNat) (fun (a0 : TCube) => space_Lean_2 k a0 x52)).bind fun x74 =>
        some (!x74)) else none)
      else some false).bind fun (x67 : Bool) =>
      ((if x67 then ((app 192 x33 ([x52])).bind fun x87 =>
        some x87)
      else some x33).bind fun (x77 : (List TCube)) =>
      some x77))) else none)).bind fun (x47 : (List TCube)) =>
      space_Lean.l0 k x12 m x30 x47 x36 (IntKind.i64.wrap (x39 + 1)))
    else some x33)
noncomputable def space_Lean (k : Nat) (u0 : List TCube) : Option (List TCube) :=
  ((slices_Clone_Cube u0).bind fun x1 =>
  ((slices_DeleteFunc_Cube k x1 (fun (a0 : TCube) => space_Lean_1 k a0)).bind fun x6 =>
  ((slices_SortFunc_Cube x6 (fun (a0 : TCube) (a1 : TCube) => cube_Compare k a0 a1)).bind fun x10 =>
  ((slices_Compact_Cube k x10).bind fun x12 =>
  ((space_Lean.l0 k x12 k x12 ([]) x12 0).bind fun (x40 : (List TCube)) =>
  some x40)))))
def cube_both (k : Nat) (u0 : TCube) (u1 : TCube) : Option Bool :=
  ((cube_Sound k u0).bind fun x3 =>
  ((if x3 then ((cube_Sound k u1).bind fun x10 =>
    some x10)
  else some false).bind fun (x7 : Bool) =>
  some x7))
def cube_Meet.l0 (k : Nat) (u1 : TCube) : Nat → TCube → Int → Option (Lo (TCube × Bool) TCube)
  | 0, _, _ => none
  | m + 1, x11, x12 =>
    (if (decide (x12 < 12)) then (if 0 ≤ x12 ∧ x12 < 12 then (if ((bAnd .u64 (bAnd .u64 (bXor .u64 (x11.Value.at x12) (u1.Value.at x12)) (x11.Care.at x12)) (u1.Care.at x12)) != 0) then some (Lo.ret (TCube.zero, false))
      else cube_Meet.l0 k u1 m ({ Value := (x11.Value.upd x12 (bOr .u64 (x11.Value.at x12) (u1.Value.at x12))), Care := (x11.Care.upd x12 (bOr .u64 (x11.Care.at x12) (u1.Care.at x12))) } : TCube) (IntKind.i64.wrap (x12 + 1))) else none)
    else some (Lo.brk x11))
def cube_Meet (k : Nat) (u0 : TCube) (u1 : TCube) : Option (TCube × Bool) :=
  ((cube_both k u0 u1).bind fun x4 =>
  (if (!x4) then some (TCube.zero, false)
  else ((cube_Meet.l0 k u1 k u0 0).bind fun (o : Lo (TCube × Bool) TCube) => match o with
    | .ret r => some r
    | .brk x13 => some (x13, true))))
def cube_Less.l1 (k : Nat) (u1 : TCube) (x27 : Int) : Nat → TCube → (List TCube) → Int → Option (TCube × (List TCube))
  | 0, _, _, _ => none
  | m + 1, x47, x48, x51 =>
    (if (decide (0 ≤ x51)) then ((if 0 ≤ x51 then (if 0 ≤ x27 ∧ x27 < 12 then (if ((bAnd .u64 (bAndNot .u64 (u1.Care.at x27) (x47.Care.at x27)) (bShl .u64 1 x51)) == 0) then some (x47, x48)
      else ((app 192 x48 ([({ Value := (x47.Value.upd x27 (bOr .u64 (x47.Value.at x27) (bAnd .u64 (bNot .u64 (u1.Value.at x27)) (bShl .u64 1 x51)))), Care := (x47.Care.upd x27 (bOr .u64 (x47.Care.at x27) (bShl .u64 1 x51))) } : TCube)])).bind fun x74 =>
        some (({ Value := (x47.Value.upd x27 (bOr .u64 (x47.Value.at x27) (bAnd .u64 (u1.Value.at x27) (bShl .u64 1 x51)))), Care := (x47.Care.upd x27 (bOr .u64 (x47.Care.at x27) (bShl .u64 1 x51))) } : TCube), x74))) else none) else none).bind fun (o : TCube × (List TCube)) => match o with
      | (x60, x61) => cube_Less.l1 k u1 x27 m x60 x61 (IntKind.i64.wrap (x51 - 1)))
    else some (x47, x48))
def cube_Less.l0 (k : Nat) (u1 : TCube) : Nat → TCube → (List TCube) → Int → Option (List TCube)
  | 0, _, _, _ => none
  | m + 1, x23, x24, x27 =>
    (if (decide (x27 < 12)) then ((head_Size x27).bind fun x35 =>
      ((cube_Less.l1 k u1 x27 k x23 x24 (IntKind.i64.wrap (x35 - 1))).bind fun (o : TCube × (List TCube)) => match o with
      | (x52, x53) => cube_Less.l0 k u1 m x52 x53 (IntKind.i64.wrap (x27 + 1))))
    else some x24)
def cube_Less (k : Nat) (u0 : TCube) (u1 : TCube) : Option (List TCube) :=
  ((cube_both k u0 u1).bind fun x3 =>
  (if (!x3) then some ([])
  else ((cube_Meet k u0 u1).bind fun x7 =>
    (if (!x7.2) then some ([u0])
    else ((cube_Less.l0 k u1 k u0 ([]) 0).bind fun (x28 : (List TCube)) =>
      some x28)))))
noncomputable def space_lean (k : Nat) (u0 : List TCube) : Option ((List TCube) × Int) :=
  ((space_Lean k u0).bind fun x1 =>
  (if (decide (64 < (x1.length : Int))) then some ([], 3)
  else some (x1, 0)))
noncomputable def space_Less.l1 (k : Nat) (x21 : List TCube) (x32 : TCube) : Nat → (List TCube) → Int → Option (List TCube)
  | 0, _, _ => none
  | m + 1, x43, x46 =>
    (if (decide (x46 < (x21.length : Int))) then ((idx x21 x46).bind fun x60 =>
      ((cube_Less k x60 x32).bind fun x69 =>
      ((app 192 x43 x69).bind fun x76 =>
      space_Less.l1 k x21 x32 m x76 (IntKind.i64.wrap (x46 + 1)))))
    else some x43)
noncomputable def space_Less.l0 (k : Nat) (u1 : List TCube) : Nat → (List TCube) → Int → Option (Lo ((List TCube) × Int) (List TCube))
  | 0, _, _ => none
  | m + 1, x21, x24 =>
    (if (decide (x24 < (u1.length : Int))) then ((idx u1 x24).bind fun x32 =>
      ((space_Less.l1 k x21 x32 k ([]) 0).bind fun (x47 : (List TCube)) =>
      ((space_lean k x47).bind fun x52 =>
      (if (x52.2 != 0) then some (Lo.ret ([], x52.2))
      else space_Less.l0 k u1 m x52.1 (IntKind.i64.wrap (x24 + 1))))))
    else some (Lo.brk x21))
noncomputable def space_Less (k : Nat) (u0 : List TCube) (u1 : List TCube) : Option ((List TCube) × Int) :=
  ((space_Sound k u0).bind fun x1 =>
  ((if (!x1) then some true
  else ((space_Sound k u1).bind fun x8 =>
    some (!x8))).bind fun (x5 : Bool) =>
  (if x5 then some ([], 2)
  else ((space_Lean k u0).bind fun x12 =>
    ((space_Less.l0 k u1 k x12 0).bind fun (o : Lo ((List TCube) × Int) (List TCube)) => match o with
    | .ret r => some r
    | .brk x25 => some (x25, 0))))))
noncomputable def space_Within (k : Nat) (u0 : List TCube) (u1 : List TCube) : Option (Bool × Int) :=
  ((space_Less k u0 u1).bind fun x1 =>
  some (((x1.2 == 0) && ((x1.1.length : Int) == 0)), x1.2))
def cube_Has.l0 (k : Nat) (u0 : TCube) (u1 : Arr 12) : Nat → Int → Option (Lo Bool Unit)
  | 0, _ => none
  | m + 1, x4 =>
    (if (decide (x4 < 12)) then (if 0 ≤ x4 ∧ x4 < 12 then (if ((bAnd .u64 (u1.at x4) (u0.Care.at x4)) != (u0.Value.at x4)) then some (Lo.ret false)
      else cube_Has.l0 k u0 u1 m (IntKind.i64.wrap (x4 + 1))) else none)
    else some (Lo.brk ()))
def cube_Has (k : Nat) (u0 : TCube) (u1 : Arr 12) : Option Bool :=
  ((cube_Has.l0 k u0 u1 k 0).bind fun (o : Lo Bool Unit) => match o with
  | .ret r => some r
  | .brk _ => ((cube_Sound k u0).bind fun x7 =>
    ((if x7 then ((head_Sound k u1).bind fun x14 =>
      some x14)
    else some false).bind fun (x11 : Bool) =>
    some x11)))
def space_Has_1 (k : Nat) (u0 : TCube) (y0 : Arr 12) : Option Bool :=
  ((cube_Has k u0 y0).bind fun x2 =>
  some x2)
def space_Has (k : Nat) (u0 : List TCube) (u1 : Arr 12) : Option Bool :=
  ((slices_ContainsFunc_Cube k u0 (fun (a0 : TCube) => space_Has_1 k a0 u1)).bind fun x2 =>
  some x2)
noncomputable def law03_answers (k : Nat)  : Option Bool :=
  ((space_Within k ([TCube.zero]) ([TCube.zero])).bind fun x5 =>
  ((if ((x5.2 == 0) && x5.1) then ((space_Has k ([TCube.zero]) A12u64.zero).bind fun x15 =>
    some x15)
  else some false).bind fun (x10 : Bool) =>
  ((if x10 then ((space_Lean k ([TCube.zero, TCube.zero])).bind fun x24 =>
    some ((x24.length : Int) == 1))
  else some false).bind fun (x19 : Bool) =>
  some x19)))
def ref01_Size (u0 : Int) : Option Int :=
  (if ((decide (u0 < 0)) || (decide (11 < u0))) then some 0
  else ((idx ([16, 48, 48, 16, 12, 4, 32, 32, 8, 8, 12, 12]) u0).bind fun x5 =>
    some x5))
def ref01_Fits (u0 : Int) (u1 : Int) : Option Bool :=
  (if 0 ≤ (IntKind.u64.wrap u1) then some (decide (u0 < (bShl .u64 1 (IntKind.u64.wrap u1)))) else none)
def ref01_Head.l0 (k : Nat) (u0 : Arr 12) : Nat → Int → Option (Lo Bool Unit)
  | 0, _ => none
  | m + 1, x3 =>
    (if (decide (x3 < 12)) then (if 0 ≤ x3 ∧ x3 < 12 then ((ref01_Size x3).bind fun x9 =>
      ((ref01_Fits (u0.at x3) x9).bind fun x11 =>
      (if (!x11) then some (Lo.ret false)
      else ref01_Head.l0 k u0 m (IntKind.i64.wrap (x3 + 1))))) else none)
    else some (Lo.brk ()))
def ref01_Head (k : Nat) (u0 : Arr 12) : Option Bool :=
  ((ref01_Head.l0 k u0 k 0).bind fun (o : Lo Bool Unit) => match o with
  | .ret r => some r
  | .brk _ => some true)
def ref01_Bits.l0 (k : Nat) (u0 : Int) : Nat → (List Bool) → Int → Option (List Bool)
  | 0, _, _ => none
  | m + 1, x5, x8 =>
    (if (decide (0 ≤ x8)) then (if 0 ≤ (IntKind.u64.wrap x8) then ((app 1 x5 ([((bAnd .u64 (bShr .u64 u0 (IntKind.u64.wrap x8)) 1) == 1)])).bind fun x21 =>
      ref01_Bits.l0 k u0 m x21 (IntKind.i64.wrap (x8 - 1))) else none)
    else some x5)
def ref01_Bits (k : Nat) (u0 : Int) (u1 : Int) : Option (List Bool) :=
  ((ref01_Bits.l0 k u0 k ([]) (IntKind.i64.wrap (u1 - 1))).bind fun (x9 : (List Bool)) =>
  some x9)
def ref01_Text.l1 (k : Nat) (x30 : (List Bool)) (x36 : (List Bool)) : Nat → (List Int) → Int → Option (List Int)
  | 0, _, _ => none
  | m + 1, x45, x48 =>
    (if (decide (x48 < (x30.length : Int))) then ((((idx x36 x48).bind fun x66 =>
      ((if (!x66) then ((app 1 x45 ([120])).bind fun x84 =>
        some x84)
      else ((idx x30 x48).bind fun x86 =>
        ((if x86 then ((app 1 x45 ([49])).bind fun x104 =>
          some x104)
        else ((app 1 x45 ([48])).bind fun x110 =>
          some x110)).bind fun (x94 : (List Int)) =>
        some x94))).bind fun (x74 : (List Int)) =>
      some x74)).bind fun (x61 : (List Int)) =>
      some x61).bind fun (x56 : (List Int)) =>
      ref01_Text.l1 k x30 x36 m x56 (IntKind.i64.wrap (x48 + 1)))
    else some x45)
def ref01_Text.l0 (k : Nat) (u0 : TCube) : Nat → (List Int) → Bool → Int → Option ((List Int) × Bool)
  | 0, _, _, _ => none
  | m + 1, x10, x13, x14 =>
    (if (decide (x14 < 12)) then (if 0 ≤ x14 ∧ x14 < 12 then ((if ((bAndNot .u64 (u0.Value.at x14) (u0.Care.at x14)) != 0) then some false
      else some x13).bind fun (x24 : Bool) =>
      ((ref01_Size x14).bind fun x27 =>
      ((ref01_Bits k (u0.Value.at x14) x27).bind fun x30 =>
      ((ref01_Bits k (u0.Care.at x14) x27).bind fun x36 =>
      ((ref01_Text.l1 k x30 x36 k x10 0).bind fun (x49 : (List Int)) =>
      ref01_Text.l0 k u0 m x49 x24 (IntKind.i64.wrap (x14 + 1))))))) else none)
    else some (x10, x13))
def ref01_Text (k : Nat) (u0 : TCube) : Option (ByteArray × Bool) :=
  ((ref01_Head k u0.Care).bind fun x2 =>
  ((ref01_Text.l0 k u0 k ([]) x2 0).bind fun (o : (List Int) × Bool) => match o with
  | (x15, x18) => some ((strOfNums x15), x18)))
def ref01_Whole.l1 (k : Nat) (x21 : (List Bool)) : Nat → (List Int) → Int → Option (List Int)
  | 0, _, _ => none
  | m + 1, x30, x33 =>
    (if (decide (x33 < (x21.length : Int))) then (((idx x21 x33).bind fun x46 =>
      ((if x46 then ((app 1 x30 ([49])).bind fun x64 =>
        some x64)
      else ((app 1 x30 ([48])).bind fun x70 =>
        some x70)).bind fun (x54 : (List Int)) =>
      some x54)).bind fun (x41 : (List Int)) =>
      ref01_Whole.l1 k x21 m x41 (IntKind.i64.wrap (x33 + 1)))
    else some x30)
def ref01_Whole.l0 (k : Nat) (u0 : Arr 12) : Nat → (List Int) → Int → Option (List Int)
  | 0, _, _ => none
  | m + 1, x6, x9 =>
    (if (decide (x9 < 12)) then (if 0 ≤ x9 ∧ x9 < 12 then ((ref01_Size x9).bind fun x18 =>
      ((ref01_Bits k (u0.at x9) x18).bind fun x21 =>
      ((ref01_Whole.l1 k x21 k x6 0).bind fun (x34 : (List Int)) =>
      ref01_Whole.l0 k u0 m x34 (IntKind.i64.wrap (x9 + 1))))) else none)
    else some x6)
def ref01_Whole (k : Nat) (u0 : Arr 12) : Option ByteArray :=
  ((ref01_Whole.l0 k u0 k ([]) 0).bind fun (x10 : (List Int)) =>
  some (strOfNums x10))
def ref01_Has.l0 (k : Nat) (x3 : ByteArray × Bool) (x6 : ByteArray) : Nat → Bool → Int → Option Bool
  | 0, _, _ => none
  | m + 1, x11, x12 =>
    (if (decide (x12 < (x3.1.size : Int))) then ((if x11 then (if 0 ≤ x12 ∧ x12 < x3.1.size then ((if ((byteAt x3.1 x12) == 120) then some true
        else (if 0 ≤ x12 ∧ x12 < x6.size then some ((byteAt x3.1 x12) == (byteAt x6 x12)) else none)).bind fun (x31 : Bool) =>
        some x31) else none)
      else some false).bind fun (x26 : Bool) =>
      ref01_Has.l0 k x3 x6 m x26 (IntKind.i64.wrap (x12 + 1)))
    else some x11)
def ref01_Has (k : Nat) (u0 : TCube) (u1 : Arr 12) : Option Bool :=
  ((ref01_Text k u0).bind fun x3 =>
  ((ref01_Whole k u1).bind fun x6 =>
  ((ref01_Has.l0 k x3 x6 k x3.2 0).bind fun (x13 : Bool) =>
  ((if x13 then ((ref01_Head k u1).bind fun x20 =>
    some x20)
  else some false).bind fun (x17 : Bool) =>
  some x17))))
def ref01_Cube (k : Nat) (u0 : TCube) : Option Bool :=
  ((ref01_Text k u0).bind fun x2 =>
  some x2.2)
def ref01_Space.l0 (k : Nat) (u0 : List TCube) : Nat → Int → Option (Lo Bool Unit)
  | 0, _ => none
  | m + 1, x2 =>
    (if (decide (x2 < (u0.length : Int))) then ((idx u0 x2).bind fun x7 =>
      ((ref01_Cube k x7).bind fun x13 =>
      (if (!x13) then some (Lo.ret false)
      else ref01_Space.l0 k u0 m (IntKind.i64.wrap (x2 + 1)))))
    else some (Lo.brk ()))
def ref01_Space (k : Nat) (u0 : List TCube) : Option Bool :=
  ((ref01_Space.l0 k u0 k 0).bind fun (o : Lo Bool Unit) => match o with
  | .ret r => some r
  | .brk _ => some (decide ((u0.length : Int) ≤ 64)))
def ref01_Plain.l0 (k : Nat) (u0 : TCube) : Nat → Int → Option (Lo Bool Unit)
  | 0, _ => none
  | m + 1, x3 =>
    (if (decide (x3 < 12)) then (if 0 ≤ x3 ∧ x3 < 12 then (if ((bAndNot .u64 (u0.Value.at x3) (u0.Care.at x3)) != 0) then some (Lo.ret false)
      else ref01_Plain.l0 k u0 m (IntKind.i64.wrap (x3 + 1))) else none)
    else some (Lo.brk ()))
def ref01_Plain (k : Nat) (u0 : TCube) : Option Bool :=
  ((ref01_Plain.l0 k u0 k 0).bind fun (o : Lo Bool Unit) => match o with
  | .ret r => some r
  | .brk _ => ((ref01_Head k u0.Care).bind fun x6 =>
    some x6))
def ref01_Within.l0 (k : Nat) (u0 : TCube) (u1 : TCube) : Nat → Int → Option (Lo Bool Unit)
  | 0, _ => none
  | m + 1, x4 =>
    (if (decide (x4 < 12)) then (if 0 ≤ x4 ∧ x4 < 12 then (if (((bAndNot .u64 (u1.Care.at x4) (u0.Care.at x4)) != 0) || ((bAnd .u64 (bXor .u64 (u0.Value.at x4) (u1.Value.at x4)) (u1.Care.at x4)) != 0)) then some (Lo.ret false)
      else ref01_Within.l0 k u0 u1 m (IntKind.i64.wrap (x4 + 1))) else none)
    else some (Lo.brk ()))
def ref01_Within (k : Nat) (u0 : TCube) (u1 : TCube) : Option Bool :=
  ((ref01_Within.l0 k u0 u1 k 0).bind fun (o : Lo Bool Unit) => match o with
  | .ret r => some r
  | .brk _ => ((ref01_Plain k u0).bind fun x7 =>
    ((if x7 then ((ref01_Plain k u1).bind fun x14 =>
      some x14)
    else some false).bind fun (x11 : Bool) =>
    some x11)))
def ref01_Order.l0 (k : Nat) (u0 : Arr 12) (u1 : Arr 12) : Nat → Int → Option (Lo Int Unit)
  | 0, _ => none
  | m + 1, x4 =>
    (if (decide (x4 < 12)) then (if 0 ≤ x4 ∧ x4 < 12 then (if (decide ((u0.at x4) < (u1.at x4))) then some (Lo.ret (-1))
      else (if (decide ((u1.at x4) < (u0.at x4))) then some (Lo.ret 1)
        else ref01_Order.l0 k u0 u1 m (IntKind.i64.wrap (x4 + 1)))) else none)
    else some (Lo.brk ()))
def ref01_Order (k : Nat) (u0 : Arr 12) (u1 : Arr 12) : Option Int :=
  ((ref01_Order.l0 k u0 u1 k 0).bind fun (o : Lo Int Unit) => match o with
  | .ret r => some r
  | .brk _ => some 0)
def ref01_Compare (k : Nat) (u0 : TCube) (u1 : TCube) : Option Int :=
  ((ref01_Order k u0.Care u1.Care).bind fun x3 =>
  (if (x3 != 0) then some x3
  else ((ref01_Order k u0.Value u1.Value).bind fun x7 =>
    some x7)))
def ref01_Lean.l2 (k : Nat)  : Nat → (List TCube) → Int → Option (List TCube)
  | 0, _, _ => none
  | m + 1, x51, x52 =>
    ((if (decide (0 < x52)) then ((idx x51 x52).bind fun x61 =>
      ((idx x51 (IntKind.i64.wrap (x52 - 1))).bind fun x69 =>
      ((ref01_Compare k x61 x69).bind fun x77 =>
      some (decide (x77 < 0)))))
    else some false).bind fun (x58 : Bool) =>
    (if x58 then ((idx x51 (IntKind.i64.wrap (x52 - 1))).bind fun x80 =>
      ((idx x51 x52).bind fun x88 =>
      ((idx (x51.set x52.toNat x80) (IntKind.i64.wrap (x52 - 1))).bind fun x102 =>
      ref01_Lean.l2 k m ((x51.set x52.toNat x80).set (IntKind.i64.wrap (x52 - 1)).toNat x88) (IntKind.i64.wrap (x52 - 1)))))
    else some x51))
def ref01_Lean.l1 (k : Nat) (u0 : List TCube) (x8 : Int) (x21 : TCube) : Nat → Bool → Int → Option Bool
  | 0, _, _ => none
  | m + 1, x32, x33 =>
    (if ((decide (x33 < (u0.length : Int))) && x32) then (((if (x33 != x8) then ((idx u0 x33).bind fun x124 =>
        ((ref01_Within k x21 x124).bind fun x130 =>
        some x130))
      else some false).bind fun (x117 : Bool) =>
      ((if x117 then ((idx u0 x33).bind fun x136 =>
        some ((!(cellsEq (TCube.enc x136) (TCube.enc x21))) || (decide (x33 < x8))))
      else some false).bind fun (x133 : Bool) =>
      ((if x133 then some false
      else some x32).bind fun (x147 : Bool) =>
      some x147))).bind fun (x113 : Bool) =>
      ref01_Lean.l1 k u0 x8 x21 m x113 (IntKind.i64.wrap (x33 + 1)))
    else some x32)
def ref01_Lean.l0 (k : Nat) (u0 : List TCube) : Nat → (List TCube) → Int → Option (List TCube)
  | 0, _, _ => none
  | m + 1, x5, x8 =>
    (if (decide (x8 < (u0.length : Int))) then (((idx u0 x8).bind fun x21 =>
      ((ref01_Cube k x21).bind fun x27 =>
      ((ref01_Lean.l1 k u0 x8 x21 k x27 0).bind fun (x34 : Bool) =>
      (if (!x34) then some x5
      else ((app 192 x5 ([x21])).bind fun x46 =>
        ((ref01_Lean.l2 k k x46 (IntKind.i64.wrap ((x46.length : Int) - 1))).bind fun (x53 : (List TCube)) =>
        some x53)))))).bind fun (x16 : (List TCube)) =>
      ref01_Lean.l0 k u0 m x16 (IntKind.i64.wrap (x8 + 1)))
    else some x5)
def ref01_Lean (k : Nat) (u0 : List TCube) : Option (List TCube) :=
  ((ref01_Lean.l0 k u0 k ([]) 0).bind fun (x9 : (List TCube)) =>
  some x9)
def ref01_SameCubes.l0 (k : Nat) (u0 : List TCube) (u1 : List TCube) : Nat → Int → Option (Lo Bool Unit)
  | 0, _ => none
  | m + 1, x3 =>
    (if (decide (x3 < (u0.length : Int))) then ((idx u0 x3).bind fun x8 =>
      ((idx u1 x3).bind fun x14 =>
      (if (!(cellsEq (TCube.enc x8) (TCube.enc x14))) then some (Lo.ret false)
      else ref01_SameCubes.l0 k u0 u1 m (IntKind.i64.wrap (x3 + 1)))))
    else some (Lo.brk ()))
def ref01_SameCubes (k : Nat) (u0 : List TCube) (u1 : List TCube) : Option Bool :=
  (if ((u0.length : Int) != (u1.length : Int)) then some false
  else ((ref01_SameCubes.l0 k u0 u1 k 0).bind fun (o : Lo Bool Unit) => match o with
    | .ret r => some r
    | .brk _ => some true))
noncomputable def law03_SpaceIs.l0 (k : Nat) (u0 : List TCube) (u1 : Arr 12) : Nat → Bool → Int → Option Bool
  | 0, _, _ => none
  | m + 1, x19, x20 =>
    (if (decide (x20 < (u0.length : Int))) then ((if x19 then some true
      else ((idx u0 x20).bind fun x69 =>
        ((ref01_Has k x69 u1).bind fun x75 =>
        some x75))).bind fun (x66 : Bool) =>
      law03_SpaceIs.l0 k u0 u1 m x66 (IntKind.i64.wrap (x20 + 1)))
    else some x19)
noncomputable def law03_SpaceIs (k : Nat) (u0 : List TCube) (u1 : Arr 12) : Option Bool :=
  (if (decide (70 < (u0.length : Int))) then ((law03_answers k).bind fun x3 =>
    some x3)
  else ((app 192 ([] : List TCube) u0).bind fun x10 =>
    ((space_Lean k x10).bind fun x12 =>
    ((law03_SpaceIs.l0 k u0 u1 k false 0).bind fun (x21 : Bool) =>
    ((law03_answers k).bind fun x24 =>
    ((if x24 then ((space_Sound k u0).bind fun x31 =>
      ((ref01_Space k u0).bind fun x34 =>
      some (x31 == x34)))
    else some false).bind fun (x28 : Bool) =>
    ((if x28 then ((space_Has k u0 u1).bind fun x41 =>
      some (x41 == x21))
    else some false).bind fun (x38 : Bool) =>
    ((if x38 then ((ref01_Lean k u0).bind fun x48 =>
      ((ref01_SameCubes k x12 x48).bind fun x53 =>
      some x53))
    else some false).bind fun (x45 : Bool) =>
    ((if x45 then ((space_Has k x12 u1).bind fun x60 =>
      some (x60 == x21))
    else some false).bind fun (x57 : Bool) =>
    some x57)))))))))
def law03_few (u0 : List TCube) : Option Bool :=
  some (decide ((u0.length : Int) ≤ 8))
def space_Touch_1 (k : Nat) (u0 : TCube) (y0 : TCube) : Option Bool :=
  ((cube_Meet k y0 u0).bind fun x2 =>
  some x2.2)
def space_Touch.l0 (k : Nat) (u0 : List TCube) (u1 : List TCube) : Nat → Int → Option (Lo Bool Unit)
  | 0, _ => none
  | m + 1, x2 =>
    (if (decide (x2 < (u0.length : Int))) then ((idx u0 x2).bind fun x7 =>
      ((slices_ContainsFunc_Cube k u1 (fun (a0 : TCube) => space_Touch_1 k a0 x7)).bind fun x14 =>
      (if x14 then some (Lo.ret true)
      else space_Touch.l0 k u0 u1 m (IntKind.i64.wrap (x2 + 1)))))
    else some (Lo.brk ()))
def space_Touch (k : Nat) (u0 : List TCube) (u1 : List TCube) : Option Bool :=
  ((space_Touch.l0 k u0 u1 k 0).bind fun (o : Lo Bool Unit) => match o with
  | .ret r => some r
  | .brk _ => some false)
noncomputable def law03_SpaceAll (k : Nat) (u0 : List TCube) : Option Bool :=
  ((law03_few u0).bind fun x1 =>
  ((if (!x1) then some true
  else ((ref01_Space k u0).bind fun x8 =>
    some (!x8))).bind fun (x5 : Bool) =>
  (if x5 then ((law03_answers k).bind fun x12 =>
    some x12)
  else ((space_Less k ([TCube.zero]) u0).bind fun x17 =>
    (if ((x17.2 != 0) || (decide (64 < (IntKind.i64.wrap ((x17.1.length : Int) + (u0.length : Int)))))) then ((law03_answers k).bind fun x24 =>
      some x24)
    else ((app 192 ([] : List TCube) x17.1).bind fun x33 =>
      ((app 192 x33 u0).bind fun x37 =>
      ((space_Within k ([TCube.zero]) x37).bind fun x39 =>
      ((law03_answers k).bind fun x42 =>
      ((if (x42 && ((x39.2 != 0) || x39.1)) then ((space_Touch k x17.1 u0).bind fun x51 =>
        some (!x51))
      else some false).bind fun (x48 : Bool) =>
      some x48))))))))))
noncomputable def space_Meet.l1 (k : Nat) (u1 : List TCube) (x32 : TCube) : Nat → (List TCube) → Int → Option (List TCube)
  | 0, _, _ => none
  | m + 1, x43, x46 =>
    (if (decide (x46 < (u1.length : Int))) then (((idx u1 x46).bind fun x59 =>
      ((cube_Meet k x32 x59).bind fun x66 =>
      ((if x66.2 then ((app 192 x43 ([x66.1])).bind fun x80 =>
        some x80)
      else some x43).bind fun (x70 : (List TCube)) =>
      some x70))).bind fun (x54 : (List TCube)) =>
      space_Meet.l1 k u1 x32 m x54 (IntKind.i64.wrap (x46 + 1)))
    else some x43)
noncomputable def space_Meet.l0 (k : Nat) (u0 : List TCube) (u1 : List TCube) : Nat → (List TCube) → Int → Option (List TCube)
  | 0, _, _ => none
  | m + 1, x16, x19 =>
    (if (decide (x19 < (u0.length : Int))) then ((idx u0 x19).bind fun x32 =>
      ((space_Meet.l1 k u1 x32 k x16 0).bind fun (x47 : (List TCube)) =>
      space_Meet.l0 k u0 u1 m x47 (IntKind.i64.wrap (x19 + 1))))
    else some x16)
noncomputable def space_Meet (k : Nat) (u0 : List TCube) (u1 : List TCube) : Option ((List TCube) × Int) :=
  ((space_Sound k u0).bind fun x1 =>
  ((if (!x1) then some true
  else ((space_Sound k u1).bind fun x8 =>
    some (!x8))).bind fun (x5 : Bool) =>
  (if x5 then some ([], 2)
  else ((space_Meet.l0 k u0 u1 k ([]) 0).bind fun (x20 : (List TCube)) =>
    ((space_lean k x20).bind fun x25 =>
    some (x25.1, x25.2))))))
noncomputable def law03_SpaceKeeps.l2 (k : Nat)  : Nat → (List TCube) → Int → Option Unit
  | 0, _, _ => none
  | m + 1, x59, x60 =>
    (if (decide (x60 < (x59.length : Int))) then ((idx x59 x60).bind fun x82 =>
      law03_SpaceKeeps.l2 k m (x59.set x60.toNat (TCube.setCare x82 (x82.Care.upd 0 77))) (IntKind.i64.wrap (x60 + 1)))
    else some ())
noncomputable def law03_SpaceKeeps.l1 (k : Nat)  : Nat → (List TCube) → Int → Option Unit
  | 0, _, _ => none
  | m + 1, x52, x53 =>
    (if (decide (x53 < (x52.length : Int))) then ((idx x52 x53).bind fun x92 =>
      law03_SpaceKeeps.l1 k m (x52.set x53.toNat (TCube.setCare x92 (x92.Care.upd 0 77))) (IntKind.i64.wrap (x53 + 1)))
    else some ())
noncomputable def law03_SpaceKeeps.l0 (k : Nat)  : Nat → (List TCube) → Int → Option Unit
  | 0, _, _ => none
  | m + 1, x35, x36 =>
    (if (decide (x36 < (x35.length : Int))) then ((idx x35 x36).bind fun x102 =>
      law03_SpaceKeeps.l0 k m (x35.set x36.toNat (TCube.setCare x102 (x102.Care.upd 0 77))) (IntKind.i64.wrap (x36 + 1)))
    else some ())
noncomputable def law03_SpaceKeeps (k : Nat) (u0 : List TCube) (u1 : List TCube) : Option Bool :=
  ((law03_few u0).bind fun x1 =>
  ((if (!x1) then some true
  else ((law03_few u1).bind fun x8 =>
    some (!x8))).bind fun (x5 : Bool) =>
  (if x5 then ((law03_answers k).bind fun x12 =>
    some x12)
  else ((app 192 ([] : List TCube) u0).bind fun x19 =>
    ((app 192 ([] : List TCube) u1).bind fun x25 =>
    ((space_Lean k x19).bind fun x27 =>
    ((law03_SpaceKeeps.l0 k k x27 0).bind fun (_ : Unit) =>
    ((space_Meet k x19 x25).bind fun x39 =>
    ((space_Less k x19 x25).bind fun x44 =>
    ((law03_SpaceKeeps.l1 k k x39.1 0).bind fun (_ : Unit) =>
    ((law03_SpaceKeeps.l2 k k x44.1 0).bind fun (_ : Unit) =>
    ((law03_answers k).bind fun x63 =>
    ((if x63 then ((ref01_SameCubes k x19 u0).bind fun x70 =>
      some x70)
    else some false).bind fun (x67 : Bool) =>
    ((if x67 then ((ref01_SameCubes k x25 u1).bind fun x77 =>
      some x77)
    else some false).bind fun (x74 : Bool) =>
    some x74))))))))))))))
noncomputable def law03_SpaceLaws (k : Nat) (u0 : List TCube) (u1 : List TCube) : Option Bool :=
  ((law03_few u0).bind fun x1 =>
  ((if (!x1) then some true
  else ((law03_few u1).bind fun x8 =>
    some (!x8))).bind fun (x5 : Bool) =>
  (if x5 then ((law03_answers k).bind fun x12 =>
    some x12)
  else ((space_Meet k u0 u1).bind fun x15 =>
    ((space_Less k u0 u1).bind fun x20 =>
    (if (((x15.2 != 0) || (x20.2 != 0)) || (decide (64 < (IntKind.i64.wrap ((x15.1.length : Int) + (x20.1.length : Int)))))) then ((law03_answers k).bind fun x28 =>
      some x28)
    else ((app 192 ([] : List TCube) x15.1).bind fun x35 =>
      ((app 192 x35 x20.1).bind fun x39 =>
      ((space_Within k u0 x39).bind fun x41 =>
      ((space_Within k x39 u0).bind fun x44 =>
      ((law03_answers k).bind fun x47 =>
      ((if x47 then ((space_Touch k x20.1 u1).bind fun x54 =>
        some (!x54))
      else some false).bind fun (x51 : Bool) =>
      ((if ((x51 && ((x41.2 != 0) || x41.1)) && ((x44.2 != 0) || x44.1)) then ((space_Touch k u0 u1).bind fun x65 =>
        some ((decide (0 < (x15.1.length : Int))) == x65))
      else some false).bind fun (x62 : Bool) =>
      some x62)))))))))))))
end Go.Proofs.Ytangebngeeamoaa
