/- Plain functions with the same answers as the Go functions. -/
import Derived.Test.YtangebngeeamoaaD
import Derived.Test.YtangebngeeamoaaL18
set_option linter.unusedVariables false
set_option linter.unusedSimpArgs false
set_option maxRecDepth 100000
set_option maxHeartbeats 4000000
namespace Go.Proofs.Ytangebngeeamoaa
open Go.RowKit Go.Pod
def head_there (u0 : Int) : Option Bool :=
  some ((decide (0 ≤ u0)) && (decide (u0 < 12)))
def head_fields  : Option (Fin 12 → Thead_field) :=
  some ((fun q => bif Nat.beq q.val 0 then ({ name_ := (ByteArray.mk #[105, 110]), size_ := 16 } : Thead_field) else bif Nat.beq q.val 1 then ({ name_ := (ByteArray.mk #[101, 115, 114, 99]), size_ := 48 } : Thead_field) else bif Nat.beq q.val 2 then ({ name_ := (ByteArray.mk #[101, 100, 115, 116]), size_ := 48 } : Thead_field) else bif Nat.beq q.val 3 then ({ name_ := (ByteArray.mk #[101, 116, 121, 112, 101]), size_ := 16 } : Thead_field) else bif Nat.beq q.val 4 then ({ name_ := (ByteArray.mk #[118, 108, 97, 110]), size_ := 12 } : Thead_field) else bif Nat.beq q.val 5 then ({ name_ := (ByteArray.mk #[112, 99, 112]), size_ := 4 } : Thead_field) else bif Nat.beq q.val 6 then ({ name_ := (ByteArray.mk #[115, 114, 99]), size_ := 32 } : Thead_field) else bif Nat.beq q.val 7 then ({ name_ := (ByteArray.mk #[100, 115, 116]), size_ := 32 } : Thead_field) else bif Nat.beq q.val 8 then ({ name_ := (ByteArray.mk #[112, 114, 111, 116, 111]), size_ := 8 } : Thead_field) else bif Nat.beq q.val 9 then ({ name_ := (ByteArray.mk #[116, 111, 115]), size_ := 8 } : Thead_field) else bif Nat.beq q.val 10 then ({ name_ := (ByteArray.mk #[115, 112, 111, 114, 116]), size_ := 12 } : Thead_field) else bif Nat.beq q.val 11 then ({ name_ := (ByteArray.mk #[100, 112, 111, 114, 116]), size_ := 12 } : Thead_field) else Thead_field.zero) : Fin 12 → Thead_field)
def head_Size (u0 : Int) : Option Int :=
  ((head_there u0).bind fun x1 =>
  (if (!x1) then some 0
  else ((head_fields).bind fun x5 =>
    (if 0 ≤ u0 ∧ u0 < 12 then some ((atA Thead_field.zero x5 u0).size_) else none))))
def head_fits (u0 : Int) (u1 : Int) : Option Bool :=
  ((head_Size u0).bind fun x1 =>
  (if 0 ≤ x1 then some ((bShr .u64 u1 x1) == 0) else none))
def head_Sound.l0 (k : Nat) (u0 : Arr 12) : Nat → Int → Option (Lo Bool Unit)
  | 0, _ => none
  | m + 1, x3 =>
    (if (decide (x3 < 12)) then (if 0 ≤ x3 ∧ x3 < 12 then ((head_fits x3 (u0.at x3)).bind fun x9 =>
      (if (!x9) then some (Lo.ret false)
      else head_Sound.l0 k u0 m (IntKind.i64.wrap (x3 + 1)))) else none)
    else some (Lo.brk ()))
def head_Sound (k : Nat) (u0 : Arr 12) : Option Bool :=
  ((head_Sound.l0 k u0 k 0).bind fun (o : Lo Bool Unit) => match o with
  | .ret r => some r
  | .brk _ => some true)
def cube_Sound.l0 (k : Nat) (u0 : TCube) : Nat → Int → Option (Lo Bool Unit)
  | 0, _ => none
  | m + 1, x7 =>
    (if (decide (x7 < 12)) then (if 0 ≤ x7 ∧ x7 < 12 then (if ((bAndNot .u64 (u0.Value.at x7) (u0.Care.at x7)) != 0) then some (Lo.ret false)
      else cube_Sound.l0 k u0 m (IntKind.i64.wrap (x7 + 1))) else none)
    else some (Lo.brk ()))
def cube_Sound (k : Nat) (u0 : TCube) : Option Bool :=
  ((head_Sound k u0.Care).bind fun x2 =>
  (if (!x2) then some false
  else ((cube_Sound.l0 k u0 k 0).bind fun (o : Lo Bool Unit) => match o with
    | .ret r => some r
    | .brk _ => some true)))
noncomputable def slices_SortFunc_Region (u0 : List TRegion) (u1 : TRegion → TRegion → Option Int) : Option (List TRegion) := sortO u1 u0
def cmp_isNaN_int (u0 : Int) : Option Bool :=
  some (u0 != u0)
def cmp_Compare_int (u0 : Int) (u1 : Int) : Option Int :=
  ((cmp_isNaN_int u0).bind fun x1 =>
  ((cmp_isNaN_int u1).bind fun x4 =>
  (if x1 then (if x4 then some 0
    else some (-1))
  else (if x4 then some 1
    else (if (decide (u0 < u1)) then some (-1)
      else (if (decide (u1 < u0)) then some 1
        else some 0))))))
def slices_CompareFunc_uint64.l0 (k : Nat) (u0 : List Int) (u1 : List Int) (u2 : Int → Int → Option Int) : Nat → Int → Option (Lo Int Unit)
  | 0, _ => none
  | m + 1, x2 =>
    (if (decide (x2 < (u0.length : Int))) then ((idx u0 x2).bind fun x8 =>
      (if (decide ((u1.length : Int) ≤ x2)) then some (Lo.ret 1)
      else ((idx u1 x2).bind fun x15 =>
        ((u2 x8 x15).bind fun x21 =>
        (if (x21 != 0) then some (Lo.ret x21)
        else slices_CompareFunc_uint64.l0 k u0 u1 u2 m (IntKind.i64.wrap (x2 + 1)))))))
    else some (Lo.brk ()))
def slices_CompareFunc_uint64 (k : Nat) (u0 : List Int) (u1 : List Int) (u2 : Int → Int → Option Int) : Option Int :=
  ((slices_CompareFunc_uint64.l0 k u0 u1 u2 k 0).bind fun (o : Lo Int Unit) => match o with
  | .ret r => some r
  | .brk _ => (if (decide ((u0.length : Int) < (u1.length : Int))) then some (-1)
    else some 0))
def cmp_isNaN_uint64 (u0 : Int) : Option Bool :=
  some (u0 != u0)
def cmp_Compare_uint64 (u0 : Int) (u1 : Int) : Option Int :=
  ((cmp_isNaN_uint64 u0).bind fun x1 =>
  ((cmp_isNaN_uint64 u1).bind fun x4 =>
  (if x1 then (if x4 then some 0
    else some (-1))
  else (if x4 then some 1
    else (if (decide (u0 < u1)) then some (-1)
      else (if (decide (u1 < u0)) then some 1
        else some 0))))))
def head_Compare (k : Nat) (u0 : Arr 12) (u1 : Arr 12) : Option Int :=
  ((slices_CompareFunc_uint64 k (A12u64.list u0) (A12u64.list u1) (fun (a0 : Int) (a1 : Int) => cmp_Compare_uint64 a0 a1)).bind fun x3 =>
  some x3)
def cmp_Or_int.l0 (k : Nat) (u0 : List Int) : Nat → Int → Option (Lo Int Unit)
  | 0, _ => none
  | m + 1, x2 =>
    (if (decide (x2 < (u0.length : Int))) then ((idx u0 x2).bind fun x7 =>
      (if (x7 != 0) then some (Lo.ret x7)
      else cmp_Or_int.l0 k u0 m (IntKind.i64.wrap (x2 + 1))))
    else some (Lo.brk ()))
def cmp_Or_int (k : Nat) (u0 : List Int) : Option Int :=
  ((cmp_Or_int.l0 k u0 k 0).bind fun (o : Lo Int Unit) => match o with
  | .ret r => some r
  | .brk _ => some 0)
def cube_Compare (k : Nat) (u0 : TCube) (u1 : TCube) : Option Int :=
  ((head_Compare k u0.Care u1.Care).bind fun x3 =>
  ((head_Compare k u0.Value u1.Value).bind fun x6 =>
  ((cmp_Or_int k ([x3, x6])).bind fun x11 =>
  some x11)))
def region_compare (k : Nat) (u0 : TRegion) (u1 : TRegion) : Option Int :=
  ((cmp_Compare_int u0.Unit u1.Unit).bind fun x3 =>
  ((cube_Compare k u0.Cube u1.Cube).bind fun x6 =>
  ((cmp_Or_int k ([x3, x6])).bind fun x11 =>
  some x11)))
def slices_Compact_Region.l1 (k : Nat) (x3 : Int) : Nat → (List TRegion) → Int → Int → Option ((List TRegion) × Int)
  | 0, _, _, _ => none
  | m + 1, x31, x32, x33 =>
    (if (decide (x33 < ((x31.length - x3.toNat : Nat) : Int))) then (((idx (x31.drop x3.toNat) x33).bind fun x46 =>
      ((idx (x31.drop x3.toNat) (IntKind.i64.wrap (x33 - 1))).bind fun x54 =>
      ((if (!(cellsEq (TRegion.enc x46) (TRegion.enc x54))) then ((idx x31 x32).bind fun x73 =>
        some ((x31.set x32.toNat x46), (IntKind.i64.wrap (x32 + 1))))
      else some (x31, x32)).bind fun (o : (List TRegion) × Int) => match o with
      | (x62, x63) => some (x62, x63)))).bind fun (o : (List TRegion) × Int) => match o with
      | (x42, x43) => slices_Compact_Region.l1 k x3 m x42 x43 (IntKind.i64.wrap (x33 + 1)))
    else some (x31, x32))
def slices_Compact_Region.l0 (k : Nat) (u0 : List TRegion) : Nat → Int → Option (Lo (List TRegion) Unit)
  | 0, _ => none
  | m + 1, x3 =>
    (if (decide (x3 < (u0.length : Int))) then ((idx u0 x3).bind fun x8 =>
      ((idx u0 (IntKind.i64.wrap (x3 - 1))).bind fun x16 =>
      (if (cellsEq (TRegion.enc x8) (TRegion.enc x16)) then (if 0 ≤ x3 ∧ x3 ≤ (((u0).length : Nat) : Int) then ((slices_Compact_Region.l1 k x3 k u0 x3 1).bind fun (o : (List TRegion) × Int) => match o with
        | (x34, x35) => (if 0 ≤ x35 ∧ x35 ≤ (((x34).length : Nat) : Int) then some (Lo.ret (x34.take x35.toNat)) else none)) else none)
      else slices_Compact_Region.l0 k u0 m (IntKind.i64.wrap (x3 + 1)))))
    else some (Lo.brk ()))
def slices_Compact_Region (k : Nat) (u0 : List TRegion) : Option (List TRegion) :=
  (if (decide ((u0.length : Int) < 2)) then some u0
  else ((slices_Compact_Region.l0 k u0 k 1).bind fun (o : Lo (List TRegion) Unit) => match o with
    | .ret r => some r
    | .brk _ => some u0))
def cube_both (k : Nat) (u0 : TCube) (u1 : TCube) : Option Bool :=
  ((cube_Sound k u0).bind fun x3 =>
  ((if x3 then ((cube_Sound k u1).bind fun x10 =>
    some x10)
  else some false).bind fun (x7 : Bool) =>
  some x7))
def cube_Meet.l0 (k : Nat) (u1 : TCube) : Nat → TCube → Int → Option (Lo (TCube × Bool) TCube)
  | 0, _, _ => none
  | m + 1, x11, x12 =>
    (if (decide (x12 < 12)) then (if 0 ≤ x12 ∧ x12 < 12 then (if ((bAnd .u64 (bAnd .u64 (bXor .u64 (x11.Value.at x12) (u1.Value.at x12)) (x11.Care.at x12)) (u1.Care.at x12)) != 0) then some (Lo.ret (TCube.zero, false))
      else cube_Meet.l0 k u1 m ({ Value := (x11.Value.upd x12 (bOr .u64 (x11.Value.at x12) (u1.Value.at x12))), Care := (x11.Care.upd x12 (bOr .u64 (x11.Care.at x12) (u1.Care.at x12))) } : TCube) (IntKind.i64.wrap (x12 + 1))) else none)
    else some (Lo.brk x11))
def cube_Meet (k : Nat) (u0 : TCube) (u1 : TCube) : Option (TCube × Bool) :=
  ((cube_both k u0 u1).bind fun x4 =>
  (if (!x4) then some (TCube.zero, false)
  else ((cube_Meet.l0 k u1 k u0 0).bind fun (o : Lo (TCube × Bool) TCube) => match o with
    | .ret r => some r
    | .brk x13 => some (x13, true))))
def cube_Within (k : Nat) (u0 : TCube) (u1 : TCube) : Option Bool :=
  ((cube_Meet k u0 u1).bind fun x3 =>
  some (x3.2 && (cellsEq (TCube.enc x3.1) (TCube.enc u0))))
def region_Of_1 (k : Nat) (u0 : TRegion) (y0 : TRegion) : Option Bool :=
  ((if ((!(cellsEq (TRegion.enc u0) (TRegion.enc y0))) && (u0.Unit == y0.Unit)) then ((cube_Within k y0.Cube u0.Cube).bind fun x7 =>
    some x7)
  else some false).bind fun (x4 : Bool) =>
  some x4)
def slices_IndexFunc_Region.l0 (k : Nat) (u0 : List TRegion) (u1 : TRegion → Option Bool) : Nat → Int → Option (Lo Int Unit)
  | 0, _ => none
  | m + 1, x2 =>
    (if (decide (x2 < (u0.length : Int))) then ((idx u0 x2).bind fun x7 =>
      ((u1 x7).bind fun x13 =>
      (if x13 then some (Lo.ret x2)
      else slices_IndexFunc_Region.l0 k u0 u1 m (IntKind.i64.wrap (x2 + 1)))))
    else some (Lo.brk ()))
def slices_IndexFunc_Region (k : Nat) (u0 : List TRegion) (u1 : TRegion → Option Bool) : Option Int :=
  ((slices_IndexFunc_Region.l0 k u0 u1 k 0).bind fun (o : Lo Int Unit) => match o with
  | .ret r => some r
  | .brk _ => some (-1))
def slices_ContainsFunc_Region (k : Nat) (u0 : List TRegion) (u1 : TRegion → Option Bool) : Option Bool :=
  ((slices_IndexFunc_Region k u0 u1).bind fun x1 =>
  some (decide (0 ≤ x1)))
noncomputable def region_Of.l1 (k : Nat) (x16 : List TRegion) : Nat → (List TRegion) → Int → Option (List TRegion)
  | 0, _, _ => none
  | m + 1, x24, x27 =>
    (if (decide (x27 < (x16.length : Int))) then (((idx x16 x27).bind fun x40 =>
      ((slices_ContainsFunc_Region k x16 (fun (a0 : TRegion) => region_Of_1 k a0 x40)).bind fun x49 =>
      ((if (!x49) then ((app 200 x24 ([x40])).bind fun x62 =>
        some x62)
      else some x24).bind fun (x52 : (List TRegion)) =>
      some x52))).bind fun (x35 : (List TRegion)) =>
      region_Of.l1 k x16 m x35 (IntKind.i64.wrap (x27 + 1)))
    else some x24)
noncomputable def region_Of.l0 (k : Nat) (u0 : List TChange) : Nat → (List TRegion) → Int → Option (List TRegion)
  | 0, _, _ => none
  | m + 1, x5, x8 =>
    (if (decide (x8 < (u0.length : Int))) then (((idx u0 x8).bind fun x71 =>
      ((cube_Sound k x71.Mod.Match).bind fun x81 =>
      ((if x81 then ((app 200 x5 ([({ Unit := x71.Unit, Cube := x71.Mod.Match } : TRegion)])).bind fun x94 =>
        some x94)
      else some x5).bind fun (x84 : (List TRegion)) =>
      some x84))).bind fun (x66 : (List TRegion)) =>
      region_Of.l0 k u0 m x66 (IntKind.i64.wrap (x8 + 1)))
    else some x5)
noncomputable def region_Of (k : Nat) (u0 : List TChange) : Option (List TRegion) :=
  ((region_Of.l0 k u0 k ([]) 0).bind fun (x9 : (List TRegion)) =>
  ((slices_SortFunc_Region x9 (fun (a0 : TRegion) (a1 : TRegion) => region_compare k a0 a1)).bind fun x14 =>
  ((slices_Compact_Region k x14).bind fun x16 =>
  ((region_Of.l1 k x16 k ([]) 0).bind fun (x28 : (List TRegion)) =>
  some x28))))
def region_Touch_1_1 (k : Nat) (u0 : TRegion) (y0 : TRegion) : Option Bool :=
  ((cube_Meet k y0.Cube u0.Cube).bind fun x2 =>
  some (x2.2 && (y0.Unit == u0.Unit)))
def region_Touch_1 (k : Nat) (u0 : TRegion) (y0 : List TRegion) : Option Bool :=
  ((slices_ContainsFunc_Region k y0 (fun (a0 : TRegion) => region_Touch_1_1 k a0 u0)).bind fun x2 =>
  some x2)
def region_Touch (k : Nat) (u0 : List TRegion) (u1 : List TRegion) : Option Bool :=
  ((slices_ContainsFunc_Region k u0 (fun (a0 : TRegion) => region_Touch_1 k a0 u1)).bind fun x2 =>
  some x2)
noncomputable def law19_answers (k : Nat)  : Option Bool :=
  ((region_Of k ([({ Unit := 2, Mod := TMod.zero } : TChange), ({ Unit := 1, Mod := TMod.zero } : TChange), ({ Unit := 2, Mod := TMod.zero } : TChange)])).bind fun x3 =>
  ((if ((x3.length : Int) == 2) then ((idx x3 0).bind fun x12 =>
    some (x12.Unit == 1))
  else some false).bind fun (x9 : Bool) =>
  ((if x9 then ((region_Touch k x3 x3).bind fun x24 =>
    some x24)
  else some false).bind fun (x21 : Bool) =>
  some x21)))
def ref01_Size (u0 : Int) : Option Int :=
  (if ((decide (u0 < 0)) || (decide (11 < u0))) then some 0
  else ((idx ([16, 48, 48, 16, 12, 4, 32, 32, 8, 8, 12, 12]) u0).bind fun x5 =>
    some x5))
def ref01_Fits (u0 : Int) (u1 : Int) : Option Bool :=
  (if 0 ≤ (IntKind.u64.wrap u1) then some (decide (u0 < (bShl .u64 1 (IntKind.u64.wrap u1)))) else none)
def ref01_Head.l0 (k : Nat) (u0 : Arr 12) : Nat → Int → Option (Lo Bool Unit)
  | 0, _ => none
  | m + 1, x3 =>
    (if (decide (x3 < 12)) then (if 0 ≤ x3 ∧ x3 < 12 then ((ref01_Size x3).bind fun x9 =>
      ((ref01_Fits (u0.at x3) x9).bind fun x11 =>
      (if (!x11) then some (Lo.ret false)
      else ref01_Head.l0 k u0 m (IntKind.i64.wrap (x3 + 1))))) else none)
    else some (Lo.brk ()))
def ref01_Head (k : Nat) (u0 : Arr 12) : Option Bool :=
  ((ref01_Head.l0 k u0 k 0).bind fun (o : Lo Bool Unit) => match o with
  | .ret r => some r
  | .brk _ => some true)
def ref01_Bits.l0 (k : Nat) (u0 : Int) : Nat → (List Bool) → Int → Option (List Bool)
  | 0, _, _ => none
  | m + 1, x5, x8 =>
    (if (decide (0 ≤ x8)) then (if 0 ≤ (IntKind.u64.wrap x8) then ((app 1 x5 ([((bAnd .u64 (bShr .u64 u0 (IntKind.u64.wrap x8)) 1) == 1)])).bind fun x21 =>
      ref01_Bits.l0 k u0 m x21 (IntKind.i64.wrap (x8 - 1))) else none)
    else some x5)
def ref01_Bits (k : Nat) (u0 : Int) (u1 : Int) : Option (List Bool) :=
  ((ref01_Bits.l0 k u0 k ([]) (IntKind.i64.wrap (u1 - 1))).bind fun (x9 : (List Bool)) =>
  some x9)
def ref01_Text.l1 (k : Nat) (x30 : (List Bool)) (x36 : (List Bool)) : Nat → (List Int) → Int → Option (List Int)
  | 0, _, _ => none
  | m + 1, x45, x48 =>
    (if (decide (x48 < (x30.length : Int))) then ((((idx x36 x48).bind fun x66 =>
      ((if (!x66) then ((app 1 x45 ([120])).bind fun x84 =>
        some x84)
      else ((idx x30 x48).bind fun x86 =>
        ((if x86 then ((app 1 x45 ([49])).bind fun x104 =>
          some x104)
        else ((app 1 x45 ([48])).bind fun x110 =>
          some x110)).bind fun (x94 : (List Int)) =>
        some x94))).bind fun (x74 : (List Int)) =>
      some x74)).bind fun (x61 : (List Int)) =>
      some x61).bind fun (x56 : (List Int)) =>
      ref01_Text.l1 k x30 x36 m x56 (IntKind.i64.wrap (x48 + 1)))
    else some x45)
def ref01_Text.l0 (k : Nat) (u0 : TCube) : Nat → (List Int) → Bool → Int → Option ((List Int) × Bool)
  | 0, _, _, _ => none
  | m + 1, x10, x13, x14 =>
    (if (decide (x14 < 12)) then (if 0 ≤ x14 ∧ x14 < 12 then ((if ((bAndNot .u64 (u0.Value.at x14) (u0.Care.at x14)) != 0) then some false
      else some x13).bind fun (x24 : Bool) =>
      ((ref01_Size x14).bind fun x27 =>
      ((ref01_Bits k (u0.Value.at x14) x27).bind fun x30 =>
      ((ref01_Bits k (u0.Care.at x14) x27).bind fun x36 =>
      ((ref01_Text.l1 k x30 x36 k x10 0).bind fun (x49 : (List Int)) =>
      ref01_Text.l0 k u0 m x49 x24 (IntKind.i64.wrap (x14 + 1))))))) else none)
    else some (x10, x13))
def ref01_Text (k : Nat) (u0 : TCube) : Option (ByteArray × Bool) :=
  ((ref01_Head k u0.Care).bind fun x2 =>
  ((ref01_Text.l0 k u0 k ([]) x2 0).bind fun (o : (List Int) × Bool) => match o with
  | (x15, x18) => some ((strOfNums x15), x18)))
def ref01_Cube (k : Nat) (u0 : TCube) : Option Bool :=
  ((ref01_Text k u0).bind fun x2 =>
  some x2.2)
def ref01_Plain.l0 (k : Nat) (u0 : TCube) : Nat → Int → Option (Lo Bool Unit)
  | 0, _ => none
  | m + 1, x3 =>
    (if (decide (x3 < 12)) then (if 0 ≤ x3 ∧ x3 < 12 then (if ((bAndNot .u64 (u0.Value.at x3) (u0.Care.at x3)) != 0) then some (Lo.ret false)
      else ref01_Plain.l0 k u0 m (IntKind.i64.wrap (x3 + 1))) else none)
    else some (Lo.brk ()))
def ref01_Plain (k : Nat) (u0 : TCube) : Option Bool :=
  ((ref01_Plain.l0 k u0 k 0).bind fun (o : Lo Bool Unit) => match o with
  | .ret r => some r
  | .brk _ => ((ref01_Head k u0.Care).bind fun x6 =>
    some x6))
def ref01_Within.l0 (k : Nat) (u0 : TCube) (u1 : TCube) : Nat → Int → Option (Lo Bool Unit)
  | 0, _ => none
  | m + 1, x4 =>
    (if (decide (x4 < 12)) then (if 0 ≤ x4 ∧ x4 < 12 then (if (((bAndNot .u64 (u1.Care.at x4) (u0.Care.at x4)) != 0) || ((bAnd .u64 (bXor .u64 (u0.Value.at x4) (u1.Value.at x4)) (u1.Care.at x4)) != 0)) then some (Lo.ret false)
      else ref01_Within.l0 k u0 u1 m (IntKind.i64.wrap (x4 + 1))) else none)
    else some (Lo.brk ()))
def ref01_Within (k : Nat) (u0 : TCube) (u1 : TCube) : Option Bool :=
  ((ref01_Within.l0 k u0 u1 k 0).bind fun (o : Lo Bool Unit) => match o with
  | .ret r => some r
  | .brk _ => ((ref01_Plain k u0).bind fun x7 =>
    ((if x7 then ((ref01_Plain k u1).bind fun x14 =>
      some x14)
    else some false).bind fun (x11 : Bool) =>
    some x11)))
def ref01_Order.l0 (k : Nat) (u0 : Arr 12) (u1 : Arr 12) : Nat → Int → Option (Lo Int Unit)
  | 0, _ => none
  | m + 1, x4 =>
    (if (decide (x4 < 12)) then (if 0 ≤ x4 ∧ x4 < 12 then (if (decide ((u0.at x4) < (u1.at x4))) then some (Lo.ret (-1))
      else (if (decide ((u1.at x4) < (u0.at x4))) then some (Lo.ret 1)
        else ref01_Order.l0 k u0 u1 m (IntKind.i64.wrap (x4 + 1)))) else none)
    else some (Lo.brk ()))
def ref01_Order (k : Nat) (u0 : Arr 12) (u1 : Arr 12) : Option Int :=
  ((ref01_Order.l0 k u0 u1 k 0).bind fun (o : Lo Int Unit) => match o with
  | .ret r => some r
  | .brk _ => some 0)
def ref01_Compare (k : Nat) (u0 : TCube) (u1 : TCube) : Option Int :=
  ((ref01_Order k u0.Care u1.Care).bind fun x3 =>
  (if (x3 != 0) then some x3
  else ((ref01_Order k u0.Value u1.Value).bind fun x7 =>
    some x7)))
def ref19_Region.l2 (k : Nat)  : Nat → (List TRegion) → Int → Option (List TRegion)
  | 0, _, _ => none
  | m + 1, x59, x60 =>
    ((if (decide (0 < x60)) then ((idx x59 x60).bind fun x69 =>
      ((idx x59 (IntKind.i64.wrap (x60 - 1))).bind fun x77 =>
      ((if (decide (x69.Unit < x77.Unit)) then some true
      else ((if (x69.Unit == x77.Unit) then ((ref01_Compare k x69.Cube x77.Cube).bind fun x117 =>
          some (decide (x117 < 0)))
        else some false).bind fun (x102 : Bool) =>
        some x102)).bind fun (x86 : Bool) =>
      some x86)))
    else some false).bind fun (x66 : Bool) =>
    (if x66 then ((idx x59 (IntKind.i64.wrap (x60 - 1))).bind fun x120 =>
      ((idx x59 x60).bind fun x128 =>
      ((idx (x59.set x60.toNat x120) (IntKind.i64.wrap (x60 - 1))).bind fun x142 =>
      ref19_Region.l2 k m ((x59.set x60.toNat x120).set (IntKind.i64.wrap (x60 - 1)).toNat x128) (IntKind.i64.wrap (x60 - 1)))))
    else some x59))
def ref19_Region.l1 (k : Nat) (u0 : List TChange) (x8 : Int) (x21 : TChange) : Nat → Bool → Int → Option Bool
  | 0, _, _ => none
  | m + 1, x36, x37 =>
    (if ((decide (x37 < (u0.length : Int))) && x36) then (((idx u0 x37).bind fun x156 =>
      ((if ((x37 != x8) && (x156.Unit == x21.Unit)) then ((ref01_Within k x21.Mod.Match x156.Mod.Match).bind fun x185 =>
        some x185)
      else some false).bind fun (x182 : Bool) =>
      ((if (x182 && ((!(cellsEq (TCube.enc x21.Mod.Match) (TCube.enc x156.Mod.Match))) || (decide (x37 < x8)))) then some false
      else some x36).bind fun (x189 : Bool) =>
      some x189))).bind fun (x153 : Bool) =>
      ref19_Region.l1 k u0 x8 x21 m x153 (IntKind.i64.wrap (x37 + 1)))
    else some x36)
def ref19_Region.l0 (k : Nat) (u0 : List TChange) : Nat → (List TRegion) → Int → Option (List TRegion)
  | 0, _, _ => none
  | m + 1, x5, x8 =>
    (if (decide (x8 < (u0.length : Int))) then (((idx u0 x8).bind fun x21 =>
      ((ref01_Cube k x21.Mod.Match).bind fun x31 =>
      ((ref19_Region.l1 k u0 x8 x21 k x31 0).bind fun (x38 : Bool) =>
      (if (!x38) then some x5
      else ((app 200 x5 ([({ Unit := x21.Unit, Cube := x21.Mod.Match } : TRegion)])).bind fun x54 =>
        ((ref19_Region.l2 k k x54 (IntKind.i64.wrap ((x54.length : Int) - 1))).bind fun (x61 : (List TRegion)) =>
        some x61)))))).bind fun (x16 : (List TRegion)) =>
      ref19_Region.l0 k u0 m x16 (IntKind.i64.wrap (x8 + 1)))
    else some x5)
def ref19_Region (k : Nat) (u0 : List TChange) : Option (List TRegion) :=
  ((ref19_Region.l0 k u0 k ([]) 0).bind fun (x9 : (List TRegion)) =>
  some x9)
def slices_Clone_Act (u0 : List TAct) : Option (List TAct) :=
  ((app 32 ([] : List TAct) u0).bind fun x6 =>
  some x6)
def slices_Clip_Act (u0 : List TAct) : Option (List TAct) :=
  some u0
def region_For.l0 (k : Nat) (u0 : List TChange) (u1 : Int) : Nat → (List TMod) → Int → Option (List TMod)
  | 0, _, _ => none
  | m + 1, x5, x8 =>
    (if (decide (x8 < (u0.length : Int))) then (((idx u0 x8).bind fun x21 =>
      ((if (x21.Unit == u1) then ((slices_Clone_Act x21.Mod.Acts).bind fun x38 =>
        ((slices_Clip_Act x38).bind fun x43 =>
        ((app 264 x5 ([(TMod.setActs x21.Mod x43)])).bind fun x52 =>
        some x52)))
      else some x5).bind fun (x31 : (List TMod)) =>
      some x31)).bind fun (x16 : (List TMod)) =>
      region_For.l0 k u0 u1 m x16 (IntKind.i64.wrap (x8 + 1)))
    else some x5)
def region_For (k : Nat) (u0 : List TChange) (u1 : Int) : Option (List TMod) :=
  ((region_For.l0 k u0 u1 k ([]) 0).bind fun (x9 : (List TMod)) =>
  some x9)
def ref19_For.l0 (k : Nat) (u0 : List TChange) (u1 : Int) : Nat → (List TMod) → Int → Option (List TMod)
  | 0, _, _ => none
  | m + 1, x5, x8 =>
    (if (decide (x8 < (u0.length : Int))) then (((idx u0 x8).bind fun x21 =>
      ((if (x21.Unit == u1) then ((app 264 x5 ([x21.Mod])).bind fun x47 =>
        some x47)
      else some x5).bind fun (x30 : (List TMod)) =>
      some x30)).bind fun (x16 : (List TMod)) =>
      ref19_For.l0 k u0 u1 m x16 (IntKind.i64.wrap (x8 + 1)))
    else some x5)
def ref19_For (k : Nat) (u0 : List TChange) (u1 : Int) : Option (List TMod) :=
  ((ref19_For.l0 k u0 u1 k ([]) 0).bind fun (x9 : (List TMod)) =>
  some x9)
def slices_Sort_int (u0 : List Int) : Option (List Int) := sortI u0
def slices_Compact_int.l1 (k : Nat) (x3 : Int) : Nat → (List Int) → Int → Int → Option ((List Int) × Int)
  | 0, _, _, _ => none
  | m + 1, x31, x32, x33 =>
    (if (decide (x33 < ((x31.length - x3.toNat : Nat) : Int))) then (((idx (x31.drop x3.toNat) x33).bind fun x46 =>
      ((idx (x31.drop x3.toNat) (IntKind.i64.wrap (x33 - 1))).bind fun x54 =>
      ((if (x46 != x54) then ((idx x31 x32).bind fun x73 =>
        some ((x31.set x32.toNat x46), (IntKind.i64.wrap (x32 + 1))))
      else some (x31, x32)).bind fun (o : (List Int) × Int) => match o with
      | (x62, x63) => some (x62, x63)))).bind fun (o : (List Int) × Int) => match o with
      | (x42, x43) => slices_Compact_int.l1 k x3 m x42 x43 (IntKind.i64.wrap (x33 + 1)))
    else some (x31, x32))
def slices_Compact_int.l0 (k : Nat) (u0 : List Int) : Nat → Int → Option (Lo (List Int) Unit)
  | 0, _ => none
  | m + 1, x3 =>
    (if (decide (x3 < (u0.length : Int))) then ((idx u0 x3).bind fun x8 =>
      ((idx u0 (IntKind.i64.wrap (x3 - 1))).bind fun x16 =>
      (if (x8 == x16) then (if 0 ≤ x3 ∧ x3 ≤ (((u0).length : Nat) : Int) then ((slices_Compact_int.l1 k x3 k u0 x3 1).bind fun (o : (List Int) × Int) => match o with
        | (x34, x35) => (if 0 ≤ x35 ∧ x35 ≤ (((x34).length : Nat) : Int) then some (Lo.ret (x34.take x35.toNat)) else none)) else none)
      else slices_Compact_int.l0 k u0 m (IntKind.i64.wrap (x3 + 1)))))
    else some (Lo.brk ()))
def slices_Compact_int (k : Nat) (u0 : List Int) : Option (List Int) :=
  (if (decide ((u0.length : Int) < 2)) then some u0
  else ((slices_Compact_int.l0 k u0 k 1).bind fun (o : Lo (List Int) Unit) => match o with
    | .ret r => some r
    | .brk _ => some u0))
def slices_Clip_int (u0 : List Int) : Option (List Int) :=
  some u0
def region_Units.l0 (k : Nat) (u0 : List TChange) : Nat → (List Int) → Int → Option (List Int)
  | 0, _, _ => none
  | m + 1, x5, x8 =>
    (if (decide (x8 < (u0.length : Int))) then ((idx u0 x8).bind fun x27 =>
      ((app 8 x5 ([x27.Unit])).bind fun x41 =>
      region_Units.l0 k u0 m x41 (IntKind.i64.wrap (x8 + 1))))
    else some x5)
def region_Units (k : Nat) (u0 : List TChange) : Option (List Int) :=
  ((region_Units.l0 k u0 k ([]) 0).bind fun (x9 : (List Int)) =>
  ((slices_Sort_int x9).bind fun x14 =>
  ((slices_Compact_int k x14).bind fun x16 =>
  ((slices_Clip_int x16).bind fun x20 =>
  some x20))))
def ref19_Units.l1 (k : Nat) (u0 : List TChange) (x5 : List Int) (x8 : Int) : Nat → Int → Option Int
  | 0, _ => none
  | m + 1, x22 =>
    ((if (decide (x22 < (x5.length : Int))) then ((idx x5 x22).bind fun x577 =>
      ((idx u0 x8).bind fun x585 =>
      some (decide (x577 < x585.Unit))))
    else some false).bind fun (x574 : Bool) =>
    (if x574 then ref19_Units.l1 k u0 x5 x8 m (IntKind.i64.wrap (x22 + 1))
    else some x22))
def ref19_Units.l0 (k : Nat) (u0 : List TChange) : Nat → (List Int) → Int → Option (List Int)
  | 0, _, _ => none
  | m + 1, x5, x8 =>
    (if (decide (x8 < (u0.length : Int))) then (((ref19_Units.l1 k u0 x5 x8 k 0).bind fun (x23 : Int) =>
      ((if (decide (x23 < (x5.length : Int))) then ((idx x5 x23).bind fun x30 =>
        ((idx u0 x8).bind fun x38 =>
        some (x30 == x38.Unit)))
      else some false).bind fun (x27 : Bool) =>
      (if x27 then some x5
      else (((idx u0 x8).bind fun x53 =>
        (if 0 ≤ 0 ∧ 0 ≤ x23 ∧ x23 ≤ x5.length then ((app 8 ([] : List Int) ((x5.take x23.toNat).drop 0)).bind fun x63 =>
        ((app 8 x63 ([x53.Unit])).bind fun x65 =>
        (if 0 ≤ x23 ∧ x23 ≤ (x5.length : Int) ∧ (x5.length : Int) ≤ x5.length then ((app 8 x65 ((x5.take x5.length).drop x23.toNat)).bind fun x68 =>
        some x68) else none))) else none)).bind fun (x48 : (List Int)) =>
        some x48)))).bind fun (x16 : (List Int)) =>
      ref19_Units.l0 k u0 m x16 (IntKind.i64.wrap (x8 + 1)))
    else some x5)
def ref19_Units (k : Nat) (u0 : List TChange) : Option (List Int) :=
  ((ref19_Units.l0 k u0 k ([]) 0).bind fun (x9 : (List Int)) =>
  some x9)
def ref01_Ints.l0 (k : Nat) (u0 : List Int) (u1 : List Int) : Nat → Int → Option (Lo Bool Unit)
  | 0, _ => none
  | m + 1, x3 =>
    (if (decide (x3 < (u0.length : Int))) then ((idx u0 x3).bind fun x8 =>
      ((idx u1 x3).bind fun x14 =>
      (if (x8 != x14) then some (Lo.ret false)
      else ref01_Ints.l0 k u0 u1 m (IntKind.i64.wrap (x3 + 1)))))
    else some (Lo.brk ()))
def ref01_Ints (k : Nat) (u0 : List Int) (u1 : List Int) : Option Bool :=
  (if ((u0.length : Int) != (u1.length : Int)) then some false
  else ((ref01_Ints.l0 k u0 u1 k 0).bind fun (o : Lo Bool Unit) => match o with
    | .ret r => some r
    | .brk _ => some true))
def ref04_SameActs.l0 (k : Nat) (u0 : List TAct) (u1 : List TAct) : Nat → Int → Option (Lo Bool Unit)
  | 0, _ => none
  | m + 1, x3 =>
    (if (decide (x3 < (u0.length : Int))) then ((idx u0 x3).bind fun x8 =>
      ((idx u1 x3).bind fun x14 =>
      (if (!(cellsEq (TAct.enc x8) (TAct.enc x14))) then some (Lo.ret false)
      else ref04_SameActs.l0 k u0 u1 m (IntKind.i64.wrap (x3 + 1)))))
    else some (Lo.brk ()))
def ref04_SameActs (k : Nat) (u0 : List TAct) (u1 : List TAct) : Option Bool :=
  (if ((u0.length : Int) != (u1.length : Int)) then some false
  else ((ref04_SameActs.l0 k u0 u1 k 0).bind fun (o : Lo Bool Unit) => match o with
    | .ret r => some r
    | .brk _ => some true))
def ref04_SameMods (k : Nat) (u0 : TMod) (u1 : TMod) : Option Bool :=
  ((if (((u0.Kind == u1.Kind) && (cellsEq (TCube.enc u0.Match) (TCube.enc u1.Match))) && (u0.Prio == u1.Prio)) then ((ref04_SameActs k u0.Acts u1.Acts).bind fun x9 =>
    some x9)
  else some false).bind fun (x6 : Bool) =>
  some ((((x6 && (u0.Idle == u1.Idle)) && (u0.Hard == u1.Hard)) && (u0.Owner == u1.Owner)) && (u0.Check == u1.Check)))
noncomputable def law19_RegionOf.l1 (k : Nat) (x21 : (List TMod)) (x26 : (List TMod)) : Nat → Int → Option (Lo Bool Unit)
  | 0, _ => none
  | m + 1, x59 =>
    (if (decide (x59 < (x21.length : Int))) then ((idx x21 x59).bind fun x64 =>
      ((idx x26 x59).bind fun x75 =>
      ((ref04_SameMods k x64 x75).bind fun x86 =>
      (if (!x86) then some (Lo.ret false)
      else law19_RegionOf.l1 k x21 x26 m (IntKind.i64.wrap (x59 + 1))))))
    else some (Lo.brk ()))
noncomputable def law19_RegionOf.l0 (k : Nat) (x11 : (List TRegion)) (x16 : (List TRegion)) : Nat → Int → Option (Lo Bool Unit)
  | 0, _ => none
  | m + 1, x55 =>
    (if (decide (x55 < (x11.length : Int))) then ((idx x11 x55).bind fun x91 =>
      ((idx x16 x55).bind fun x99 =>
      (if (!(cellsEq (TRegion.enc x91) (TRegion.enc x99))) then some (Lo.ret false)
      else law19_RegionOf.l0 k x11 x16 m (IntKind.i64.wrap (x55 + 1)))))
    else some (Lo.brk ()))
noncomputable def law19_RegionOf (k : Nat) (u0 : List TChange) (u1 : Int) : Option Bool :=
  (if (decide (30 < (u0.length : Int))) then ((law19_answers k).bind fun x2 =>
    some x2)
  else ((app 272 ([] : List TChange) u0).bind fun x9 =>
    ((region_Of k x9).bind fun x11 =>
    ((ref19_Region k u0).bind fun x16 =>
    ((region_For k u0 u1).bind fun x21 =>
    ((ref19_For k u0 u1).bind fun x26 =>
    ((law19_answers k).bind fun x31 =>
    ((if (((!x31) || ((x11.length : Int) != (x16.length : Int))) || ((x21.length : Int) != (x26.length : Int))) then some true
    else ((region_Units k u0).bind fun x40 =>
      ((ref19_Units k u0).bind fun x45 =>
      ((ref01_Ints k x40 x45).bind fun x50 =>
      some (!x50))))).bind fun (x37 : Bool) =>
    (if x37 then some false
    else ((law19_RegionOf.l0 k x11 x16 k 0).bind fun (o : Lo Bool Unit) => match o with
      | .ret r => some r
      | .brk _ => ((law19_RegionOf.l1 k x21 x26 k 0).bind fun (o : Lo Bool Unit) => match o with
        | .ret r => some r
        | .brk _ => some true)))))))))))
end Go.Proofs.Ytangebngeeamoaa
