/- Plain functions with the same answers as the Go functions. -/
import Derived.Test.YtangebngeeamoaaD
import Derived.Test.YtangebngeeamoaaL19
set_option linter.unusedVariables false
set_option linter.unusedSimpArgs false
set_option maxRecDepth 100000
set_option maxHeartbeats 4000000
namespace Go.Proofs.Ytangebngeeamoaa
open Go.RowKit Go.Pod
def head_there (u0 : Int) : Option Bool :=
  some ((decide (0 ≤ u0)) && (decide (u0 < 12)))
def head_fields  : Option (Fin 12 → Thead_field) :=
  some ((fun q => bif Nat.beq q.val 0 then ({ name_ := (ByteArray.mk #[105, 110]), size_ := 16 } : Thead_field) else bif Nat.beq q.val 1 then ({ name_ := (ByteArray.mk #[101, 115, 114, 99]), size_ := 48 } : Thead_field) else bif Nat.beq q.val 2 then ({ name_ := (ByteArray.mk #[101, 100, 115, 116]), size_ := 48 } : Thead_field) else bif Nat.beq q.val 3 then ({ name_ := (ByteArray.mk #[101, 116, 121, 112, 101]), size_ := 16 } : Thead_field) else bif Nat.beq q.val 4 then ({ name_ := (ByteArray.mk #[118, 108, 97, 110]), size_ := 12 } : Thead_field) else bif Nat.beq q.val 5 then ({ name_ := (ByteArray.mk #[112, 99, 112]), size_ := 4 } : Thead_field) else bif Nat.beq q.val 6 then ({ name_ := (ByteArray.mk #[115, 114, 99]), size_ := 32 } : Thead_field) else bif Nat.beq q.val 7 then ({ name_ := (ByteArray.mk #[100, 115, 116]), size_ := 32 } : Thead_field) else bif Nat.beq q.val 8 then ({ name_ := (ByteArray.mk #[112, 114, 111, 116, 111]), size_ := 8 } : Thead_field) else bif Nat.beq q.val 9 then ({ name_ := (ByteArray.mk #[116, 111, 115]), size_ := 8 } : Thead_field) else bif Nat.beq q.val 10 then ({ name_ := (ByteArray.mk #[115, 112, 111, 114, 116]), size_ := 12 } : Thead_field) else bif Nat.beq q.val 11 then ({ name_ := (ByteArray.mk #[100, 112, 111, 114, 116]), size_ := 12 } : Thead_field) else Thead_field.zero) : Fin 12 → Thead_field)
def head_Size (u0 : Int) : Option Int :=
  ((head_there u0).bind fun x1 =>
  (if (!x1) then some 0
  else ((head_fields).bind fun x5 =>
    (if 0 ≤ u0 ∧ u0 < 12 then some ((atA Thead_field.zero x5 u0).size_) else none))))
def head_fits (u0 : Int) (u1 : Int) : Option Bool :=
  ((head_Size u0).bind fun x1 =>
  (if 0 ≤ x1 then some ((bShr .u64 u1 x1) == 0) else none))
def head_Sound.l0 (k : Nat) (u0 : Arr 12) : Nat → Int → Option (Lo Bool Unit)
  | 0, _ => none
  | m + 1, x3 =>
    (if (decide (x3 < 12)) then (if 0 ≤ x3 ∧ x3 < 12 then ((head_fits x3 (u0.at x3)).bind fun x9 =>
      (if (!x9) then some (Lo.ret false)
      else head_Sound.l0 k u0 m (IntKind.i64.wrap (x3 + 1)))) else none)
    else some (Lo.brk ()))
def head_Sound (k : Nat) (u0 : Arr 12) : Option Bool :=
  ((head_Sound.l0 k u0 k 0).bind fun (o : Lo Bool Unit) => match o with
  | .ret r => some r
  | .brk _ => some true)
def cube_Sound.l0 (k : Nat) (u0 : TCube) : Nat → Int → Option (Lo Bool Unit)
  | 0, _ => none
  | m + 1, x7 =>
    (if (decide (x7 < 12)) then (if 0 ≤ x7 ∧ x7 < 12 then (if ((bAndNot .u64 (u0.Value.at x7) (u0.Care.at x7)) != 0) then some (Lo.ret false)
      else cube_Sound.l0 k u0 m (IntKind.i64.wrap (x7 + 1))) else none)
    else some (Lo.brk ()))
def cube_Sound (k : Nat) (u0 : TCube) : Option Bool :=
  ((head_Sound k u0.Care).bind fun x2 =>
  (if (!x2) then some false
  else ((cube_Sound.l0 k u0 k 0).bind fun (o : Lo Bool Unit) => match o with
    | .ret r => some r
    | .brk _ => some true)))
def slices_IndexFunc_Act.l0 (k : Nat) (u0 : List TAct) (u1 : TAct → Option Bool) : Nat → Int → Option (Lo Int Unit)
  | 0, _ => none
  | m + 1, x2 =>
    (if (decide (x2 < (u0.length : Int))) then ((idx u0 x2).bind fun x7 =>
      ((u1 x7).bind fun x13 =>
      (if x13 then some (Lo.ret x2)
      else slices_IndexFunc_Act.l0 k u0 u1 m (IntKind.i64.wrap (x2 + 1)))))
    else some (Lo.brk ()))
def slices_IndexFunc_Act (k : Nat) (u0 : List TAct) (u1 : TAct → Option Bool) : Option Int :=
  ((slices_IndexFunc_Act.l0 k u0 u1 k 0).bind fun (o : Lo Int Unit) => match o with
  | .ret r => some r
  | .brk _ => some (-1))
def slices_ContainsFunc_Act (k : Nat) (u0 : List TAct) (u1 : TAct → Option Bool) : Option Bool :=
  ((slices_IndexFunc_Act k u0 u1).bind fun x1 =>
  some (decide (0 ≤ x1)))
def head_Set (u0 : Arr 12) (u1 : Int) (u2 : Int) : Option ((Arr 12) × Int) :=
  ((head_there u1).bind fun x3 =>
  (if (!x3) then some (A12u64.zero, 1)
  else ((head_fits u1 u2).bind fun x7 =>
    (if (!x7) then some (A12u64.zero, 13)
    else (if 0 ≤ u1 ∧ u1 < 12 then some ((u0.upd u1 u2), 0) else none)))))
def act_sound (u0 : TAct) : Option Bool :=
  (if (u0.Kind == 1) then some ((((decide (1 ≤ u0.Port)) && (decide (u0.Port ≤ 16))) && (u0.Field == 0)) && (u0.Value == 0))
  else (if (u0.Kind == 2) then ((head_Set A12u64.zero u0.Field u0.Value).bind fun x7 =>
      some ((x7.2 == 0) && (u0.Port == 0)))
    else some (cellsEq (TAct.enc u0) (TAct.enc ({ Kind := 3, Port := 0, Field := 0, Value := 0 } : TAct)))))
def act_Sound_1 (u0 : TAct) : Option Bool :=
  ((act_sound u0).bind fun x2 =>
  some (!x2))
def act_Sound (k : Nat) (u0 : List TAct) : Option Bool :=
  ((if (decide ((u0.length : Int) ≤ 8)) then ((slices_ContainsFunc_Act k u0 (fun (a0 : TAct) => act_Sound_1 a0)).bind fun x5 =>
    some (!x5))
  else some false).bind fun (x2 : Bool) =>
  some x2)
def rule_span (u0 : Int) (u1 : Int) : Option Bool :=
  some ((decide (0 ≤ u0)) && (decide (u0 ≤ u1)))
def rule_Sound (k : Nat) (u0 : TRule) : Option Bool :=
  ((cube_Sound k u0.Match).bind fun x2 =>
  ((if x2 then ((act_Sound k u0.Acts).bind fun x9 =>
    some x9)
  else some false).bind fun (x6 : Bool) =>
  ((if x6 then ((rule_span u0.Prio 65535).bind fun x16 =>
    some x16)
  else some false).bind fun (x13 : Bool) =>
  ((if x13 then ((rule_span u0.Idle 1048576).bind fun x23 =>
    some x23)
  else some false).bind fun (x20 : Bool) =>
  ((if x20 then ((rule_span u0.Hard 1048576).bind fun x30 =>
    some x30)
  else some false).bind fun (x27 : Bool) =>
  ((if x27 then ((rule_span u0.Owner 255).bind fun x37 =>
    some x37)
  else some false).bind fun (x34 : Bool) =>
  some (x34 && (decide (0 ≤ (min (min u0.Hits u0.Quiet) u0.Age))))))))))
def slices_CompareFunc_uint64.l0 (k : Nat) (u0 : List Int) (u1 : List Int) (u2 : Int → Int → Option Int) : Nat → Int → Option (Lo Int Unit)
  | 0, _ => none
  | m + 1, x2 =>
    (if (decide (x2 < (u0.length : Int))) then ((idx u0 x2).bind fun x8 =>
      (if (decide ((u1.length : Int) ≤ x2)) then some (Lo.ret 1)
      else ((idx u1 x2).bind fun x15 =>
        ((u2 x8 x15).bind fun x21 =>
        (if (x21 != 0) then some (Lo.ret x21)
        else slices_CompareFunc_uint64.l0 k u0 u1 u2 m (IntKind.i64.wrap (x2 + 1)))))))
    else some (Lo.brk ()))
def slices_CompareFunc_uint64 (k : Nat) (u0 : List Int) (u1 : List Int) (u2 : Int → Int → Option Int) : Option Int :=
  ((slices_CompareFunc_uint64.l0 k u0 u1 u2 k 0).bind fun (o : Lo Int Unit) => match o with
  | .ret r => some r
  | .brk _ => (if (decide ((u0.length : Int) < (u1.length : Int))) then some (-1)
    else some 0))
def cmp_isNaN_uint64 (u0 : Int) : Option Bool :=
  some (u0 != u0)
def cmp_Compare_uint64 (u0 : Int) (u1 : Int) : Option Int :=
  ((cmp_isNaN_uint64 u0).bind fun x1 =>
  ((cmp_isNaN_uint64 u1).bind fun x4 =>
  (if x1 then (if x4 then some 0
    else some (-1))
  else (if x4 then some 1
    else (if (decide (u0 < u1)) then some (-1)
      else (if (decide (u1 < u0)) then some 1
        else some 0))))))
def head_Compare (k : Nat) (u0 : Arr 12) (u1 : Arr 12) : Option Int :=
  ((slices_CompareFunc_uint64 k (A12u64.list u0) (A12u64.list u1) (fun (a0 : Int) (a1 : Int) => cmp_Compare_uint64 a0 a1)).bind fun x3 =>
  some x3)
def cmp_Or_int.l0 (k : Nat) (u0 : List Int) : Nat → Int → Option (Lo Int Unit)
  | 0, _ => none
  | m + 1, x2 =>
    (if (decide (x2 < (u0.length : Int))) then ((idx u0 x2).bind fun x7 =>
      (if (x7 != 0) then some (Lo.ret x7)
      else cmp_Or_int.l0 k u0 m (IntKind.i64.wrap (x2 + 1))))
    else some (Lo.brk ()))
def cmp_Or_int (k : Nat) (u0 : List Int) : Option Int :=
  ((cmp_Or_int.l0 k u0 k 0).bind fun (o : Lo Int Unit) => match o with
  | .ret r => some r
  | .brk _ => some 0)
def cube_Compare (k : Nat) (u0 : TCube) (u1 : TCube) : Option Int :=
  ((head_Compare k u0.Care u1.Care).bind fun x3 =>
  ((head_Compare k u0.Value u1.Value).bind fun x6 =>
  ((cmp_Or_int k ([x3, x6])).bind fun x11 =>
  some x11)))
def rule_compare (k : Nat) (u0 : TRule) (u1 : TRule) : Option Int :=
  (if (u0.Prio != u1.Prio) then (if (decide (u1.Prio < u0.Prio)) then some (-1)
    else some 1)
  else ((cube_Compare k u0.Match u1.Match).bind fun x5 =>
    some x5))
def rule_Before (k : Nat) (u0 : TRule) (u1 : TRule) : Option Bool :=
  ((rule_compare k u0 u1).bind fun x3 =>
  some (decide (x3 < 0)))
def rule_Table.l0 (k : Nat) (u0 : List TRule) : Nat → Int → Option (Lo Bool Unit)
  | 0, _ => none
  | m + 1, x2 =>
    (if (decide (x2 < (u0.length : Int))) then ((idx u0 x2).bind fun x7 =>
      ((rule_Sound k x7).bind fun x17 =>
      ((if (!x17) then some true
      else ((if (decide (0 < x2)) then ((idx u0 (IntKind.i64.wrap (x2 - 1))).bind fun x27 =>
          ((rule_Before k x27 x7).bind fun x36 =>
          some (!x36)))
        else some false).bind fun (x24 : Bool) =>
        some x24)).bind fun (x20 : Bool) =>
      (if x20 then some (Lo.ret false)
      else rule_Table.l0 k u0 m (IntKind.i64.wrap (x2 + 1))))))
    else some (Lo.brk ()))
def rule_Table (k : Nat) (u0 : List TRule) : Option Bool :=
  ((rule_Table.l0 k u0 k 0).bind fun (o : Lo Bool Unit) => match o with
  | .ret r => some r
  | .brk _ => some true)
def mods_span (u0 : Int) (u1 : Int) : Option Bool :=
  some ((decide (0 ≤ u0)) && (decide (u0 ≤ u1)))
def mods_plain (u0 : TMod) : Option Bool :=
  some (((u0.Idle == 0) && (u0.Hard == 0)) && (!u0.Check))
def mods_Sound (k : Nat) (u0 : TMod) : Option Bool :=
  ((cube_Sound k u0.Match).bind fun x2 =>
  ((if (!x2) then some true
  else ((act_Sound k u0.Acts).bind fun x9 =>
    some (!x9))).bind fun (x6 : Bool) =>
  ((if x6 then some true
  else ((mods_span u0.Prio 65535).bind fun x16 =>
    some (!x16))).bind fun (x13 : Bool) =>
  ((if x13 then some true
  else ((mods_span u0.Owner 255).bind fun x23 =>
    some (!x23))).bind fun (x20 : Bool) =>
  (if x20 then some false
  else (if (u0.Kind == 1) then ((mods_span u0.Idle 1048576).bind fun x28 =>
      ((if x28 then ((mods_span u0.Hard 1048576).bind fun x35 =>
        some x35)
      else some false).bind fun (x32 : Bool) =>
      some x32))
    else (if (u0.Kind == 2) then ((mods_plain u0).bind fun x39 =>
        some (x39 && (u0.Prio == 0)))
      else (if (u0.Kind == 3) then ((mods_plain u0).bind fun x44 =>
          some ((x44 && (u0.Prio == 0)) && ((u0.Acts.length : Int) == 0)))
        else (if (u0.Kind == 4) then ((mods_plain u0).bind fun x50 =>
            some x50)
          else (if (u0.Kind == 5) then ((mods_plain u0).bind fun x54 =>
              some (x54 && ((u0.Acts.length : Int) == 0)))
            else some false))))))))))
def slices_Clone_Act (u0 : List TAct) : Option (List TAct) :=
  ((app 32 ([] : List TAct) u0).bind fun x6 =>
  some x6)
def slices_Clip_Act (u0 : List TAct) : Option (List TAct) :=
  some u0
def mods_Rule (u0 : TMod) : Option TRule :=
  ((slices_Clone_Act u0.Acts).bind fun x3 =>
  ((slices_Clip_Act x3).bind fun x8 =>
  some ({ Match := u0.Match, Prio := u0.Prio, Acts := x8, Idle := u0.Idle, Hard := u0.Hard, Owner := u0.Owner, Hits := 0, Quiet := 0, Age := 0 } : TRule)))
def rule_Key (u0 : TRule) (u1 : TRule) : Option Bool :=
  some ((cellsEq (TCube.enc u0.Match) (TCube.enc u1.Match)) && (u0.Prio == u1.Prio))
def mods_add_1 (u0 : TRule) (y0 : TRule) : Option Bool :=
  ((rule_Key u0 y0).bind fun x2 =>
  some x2)
def slices_IndexFunc_Rule.l0 (k : Nat) (u0 : List TRule) (u1 : TRule → Option Bool) : Nat → Int → Option (Lo Int Unit)
  | 0, _ => none
  | m + 1, x2 =>
    (if (decide (x2 < (u0.length : Int))) then ((idx u0 x2).bind fun x7 =>
      ((u1 x7).bind fun x16 =>
      (if x16 then some (Lo.ret x2)
      else slices_IndexFunc_Rule.l0 k u0 u1 m (IntKind.i64.wrap (x2 + 1)))))
    else some (Lo.brk ()))
def slices_IndexFunc_Rule (k : Nat) (u0 : List TRule) (u1 : TRule → Option Bool) : Option Int :=
  ((slices_IndexFunc_Rule.l0 k u0 u1 k 0).bind fun (o : Lo Int Unit) => match o with
  | .ret r => some r
  | .brk _ => some (-1))
def cube_both (k : Nat) (u0 : TCube) (u1 : TCube) : Option Bool :=
  ((cube_Sound k u0).bind fun x3 =>
  ((if x3 then ((cube_Sound k u1).bind fun x10 =>
    some x10)
  else some false).bind fun (x7 : Bool) =>
  some x7))
def cube_Meet.l0 (k : Nat) (u1 : TCube) : Nat → TCube → Int → Option (Lo (TCube × Bool) TCube)
  | 0, _, _ => none
  | m + 1, x11, x12 =>
    (if (decide (x12 < 12)) then (if 0 ≤ x12 ∧ x12 < 12 then (if ((bAnd .u64 (bAnd .u64 (bXor .u64 (x11.Value.at x12) (u1.Value.at x12)) (x11.Care.at x12)) (u1.Care.at x12)) != 0) then some (Lo.ret (TCube.zero, false))
      else cube_Meet.l0 k u1 m ({ Value := (x11.Value.upd x12 (bOr .u64 (x11.Value.at x12) (u1.Value.at x12))), Care := (x11.Care.upd x12 (bOr .u64 (x11.Care.at x12) (u1.Care.at x12))) } : TCube) (IntKind.i64.wrap (x12 + 1))) else none)
    else some (Lo.brk x11))
def cube_Meet (k : Nat) (u0 : TCube) (u1 : TCube) : Option (TCube × Bool) :=
  ((cube_both k u0 u1).bind fun x4 =>
  (if (!x4) then some (TCube.zero, false)
  else ((cube_Meet.l0 k u1 k u0 0).bind fun (o : Lo (TCube × Bool) TCube) => match o with
    | .ret r => some r
    | .brk x13 => some (x13, true))))
def rule_Overlap (k : Nat) (u0 : TRule) (u1 : TRule) : Option Bool :=
  ((cube_Meet k u0.Match u1.Match).bind fun x3 =>
  some (x3.2 && (u0.Prio == u1.Prio)))
def mods_add_2 (k : Nat) (u0 : TRule) (y0 : TRule) : Option Bool :=
  ((rule_Key u0 y0).bind fun x2 =>
  ((if (!x2) then ((rule_Overlap k u0 y0).bind fun x9 =>
    some x9)
  else some false).bind fun (x6 : Bool) =>
  some x6))
def slices_ContainsFunc_Rule (k : Nat) (u0 : List TRule) (u1 : TRule → Option Bool) : Option Bool :=
  ((slices_IndexFunc_Rule k u0 u1).bind fun x1 =>
  some (decide (0 ≤ x1)))
def rule_copied (u0 : TRule) : Option TRule :=
  ((slices_Clone_Act u0.Acts).bind fun x3 =>
  ((slices_Clip_Act x3).bind fun x8 =>
  some (TRule.setActs u0 x8)))
def slices_Clip_Rule (u0 : List TRule) : Option (List TRule) :=
  some u0
def rule_Copy.l0 (k : Nat) (u0 : List TRule) : Nat → (List TRule) → Int → Option (List TRule)
  | 0, _, _ => none
  | m + 1, x5, x8 =>
    (if (decide (x8 < (u0.length : Int))) then ((idx u0 x8).bind fun x20 =>
      ((rule_copied x20).bind fun x30 =>
      ((app 272 x5 ([x30])).bind fun x39 =>
      rule_Copy.l0 k u0 m x39 (IntKind.i64.wrap (x8 + 1)))))
    else some x5)
def rule_Copy (k : Nat) (u0 : List TRule) : Option (List TRule) :=
  ((rule_Copy.l0 k u0 k ([]) 0).bind fun (x9 : (List TRule)) =>
  ((slices_Clip_Rule x9).bind fun x14 =>
  some x14))
def slices_BinarySearchFunc_Rule.l0 (k : Nat) (u0 : List TRule) (u1 : TRule) (u2 : TRule → TRule → Option Int) : Nat → Int → Int → Option Int
  | 0, _, _ => none
  | m + 1, x4, x5 =>
    (if (decide (x4 < x5)) then (((idx u0 (IntKind.i64.wrap (bShr .u64 (IntKind.u64.wrap (IntKind.i64.wrap (x4 + x5))) 1))).bind fun x30 =>
      ((u2 x30 u1).bind fun x39 =>
      ((if (decide (x39 < 0)) then some ((IntKind.i64.wrap ((IntKind.i64.wrap (bShr .u64 (IntKind.u64.wrap (IntKind.i64.wrap (x4 + x5))) 1)) + 1)), x5)
      else some (x4, (IntKind.i64.wrap (bShr .u64 (IntKind.u64.wrap (IntKind.i64.wrap (x4 + x5))) 1)))).bind fun (o : Int × Int) => match o with
      | (x41, x42) => some (x41, x42)))).bind fun (o : Int × Int) => match o with
      | (x26, x27) => slices_BinarySearchFunc_Rule.l0 k u0 u1 u2 m x26 x27)
    else some x4)
def slices_BinarySearchFunc_Rule (k : Nat) (u0 : List TRule) (u1 : TRule) (u2 : TRule → TRule → Option Int) : Option (Int × Bool) :=
  ((slices_BinarySearchFunc_Rule.l0 k u0 u1 u2 k 0 (u0.length : Int)).bind fun (x6 : Int) =>
  ((if (decide (x6 < (u0.length : Int))) then ((idx u0 x6).bind fun x13 =>
    ((u2 x13 u1).bind fun x22 =>
    some (x22 == 0)))
  else some false).bind fun (x10 : Bool) =>
  some (x6, x10)))
def slices_Insert_Rule (u0 : List TRule) (u1 : Int) (u2 : List TRule) : Option (List TRule) := insO 272 u0 u1 u2
def rule_Sort.l0 (k : Nat) (u0 : List TRule) : Nat → (List TRule) → Int → Option (List TRule)
  | 0, _, _ => none
  | m + 1, x5, x8 =>
    (if (decide (x8 < (u0.length : Int))) then (((idx u0 x8).bind fun x25 =>
      ((rule_Sound k x25).bind fun x35 =>
      (if (!x35) then some x5
      else ((slices_BinarySearchFunc_Rule k x5 x25 (fun (a0 : TRule) (a1 : TRule) => rule_compare k a0 a1)).bind fun x39 =>
        ((if x39.2 then ((rule_copied x25).bind fun x48 =>
          ((idx x5 x39.1).bind fun x53 =>
          some (x5.set x39.1.toNat x48)))
        else ((rule_copied x25).bind fun x64 =>
          ((slices_Insert_Rule x5 x39.1 ([x64])).bind fun x71 =>
          some x71))).bind fun (x42 : (List TRule)) =>
        some x42))))).bind fun (x20 : (List TRule)) =>
      rule_Sort.l0 k u0 m x20 (IntKind.i64.wrap (x8 + 1)))
    else some x5)
def rule_Sort (k : Nat) (u0 : List TRule) : Option (List TRule) :=
  ((rule_Sort.l0 k u0 k ([]) 0).bind fun (x9 : (List TRule)) =>
  ((slices_Clip_Rule x9).bind fun x14 =>
  some x14))
def mods_add (k : Nat) (u0 : List TRule) (u1 : TMod) (u2 : Int) : Option ((List TRule) × Int) :=
  ((mods_Rule u1).bind fun x2 =>
  ((slices_IndexFunc_Rule k u0 (fun (a0 : TRule) => mods_add_1 a0 x2)).bind fun x8 =>
  ((if (decide (0 ≤ x8)) then ((idx u0 x8).bind fun x15 =>
    some (x15.Owner != u1.Owner))
  else some false).bind fun (x12 : Bool) =>
  (if x12 then some ([], 7)
  else ((if u1.Check then ((slices_ContainsFunc_Rule k u0 (fun (a0 : TRule) => mods_add_2 k a0 x2)).bind fun x29 =>
      some x29)
    else some false).bind fun (x26 : Bool) =>
    (if x26 then some ([], 6)
    else (if ((decide (x8 < 0)) && (decide (u2 ≤ (u0.length : Int)))) then some ([], 3)
      else (((rule_Copy k u0).bind fun x41 =>
        ((app 272 x41 ([x2])).bind fun x43 =>
        ((rule_Sort k x43).bind fun x45 =>
        some (x45, 0)))).bind fun (o : (List TRule) × Int) => match o with
        | (x35, x38) => some (x35, x38)))))))))
def cube_Within (k : Nat) (u0 : TCube) (u1 : TCube) : Option Bool :=
  ((cube_Meet k u0 u1).bind fun x3 =>
  some (x3.2 && (cellsEq (TCube.enc x3.1) (TCube.enc u0))))
def mods_touches (k : Nat) (u0 : TMod) (u1 : TRule) : Option Bool :=
  ((if (u0.Kind == 2) then some (u0.Kind == 2)
  else some (u0.Kind == 3)).bind fun (x3 : Bool) =>
  (if x3 then ((if (u1.Owner == u0.Owner) then ((cube_Within k u1.Match u0.Match).bind fun x11 =>
      some x11)
    else some false).bind fun (x8 : Bool) =>
    some x8)
  else ((if (u0.Kind == 4) then some (u0.Kind == 4)
    else some (u0.Kind == 5)).bind fun (x14 : Bool) =>
    (if x14 then ((if (u1.Owner == u0.Owner) then ((mods_Rule u0).bind fun x22 =>
        ((rule_Key u1 x22).bind fun x27 =>
        some x27))
      else some false).bind fun (x18 : Bool) =>
      some x18)
    else some false))))
def mods_Apply.l0 (k : Nat) (u1 : TMod) (x19 : (List TRule)) : Nat → (List TRule) → Int → Option (List TRule)
  | 0, _, _ => none
  | m + 1, x28, x31 =>
    (if (decide (x31 < (x19.length : Int))) then (((idx x19 x31).bind fun x44 =>
      ((mods_touches k u1 x44).bind fun x56 =>
      (if x56 then (if ((u1.Kind == 3) || (u1.Kind == 5)) then some x28
        else ((slices_Clone_Act u1.Acts).bind fun x62 =>
          ((slices_Clip_Act x62).bind fun x67 =>
          ((app 272 x28 ([(TRule.setActs x44 x67)])).bind fun x75 =>
          some x75))))
      else ((app 272 x28 ([x44])).bind fun x81 =>
        some x81)))).bind fun (x39 : (List TRule)) =>
      mods_Apply.l0 k u1 x19 m x39 (IntKind.i64.wrap (x31 + 1)))
    else some x28)
def mods_Apply (k : Nat) (u0 : List TRule) (u1 : TMod) (u2 : Int) : Option ((List TRule) × Int) :=
  ((rule_Table k u0).bind fun x2 =>
  ((if (!x2) then some true
  else ((mods_Sound k u1).bind fun x9 =>
    some (!x9))).bind fun (x6 : Bool) =>
  (if x6 then some ([], 2)
  else (if (u1.Kind == 1) then ((mods_add k u0 u1 u2).bind fun x14 =>
      some (x14.1, x14.2))
    else ((rule_Copy k u0).bind fun x19 =>
      ((mods_Apply.l0 k u1 x19 k ([]) 0).bind fun (x32 : (List TRule)) =>
      some (x32, 0)))))))
def slices_Equal_Act.l0 (k : Nat) (u0 : List TAct) (u1 : List TAct) : Nat → Int → Option (Lo Bool Unit)
  | 0, _ => none
  | m + 1, x3 =>
    (if (decide (x3 < (u0.length : Int))) then ((idx u0 x3).bind fun x8 =>
      ((idx u1 x3).bind fun x14 =>
      (if (!(cellsEq (TAct.enc x8) (TAct.enc x14))) then some (Lo.ret false)
      else slices_Equal_Act.l0 k u0 u1 m (IntKind.i64.wrap (x3 + 1)))))
    else some (Lo.brk ()))
def slices_Equal_Act (k : Nat) (u0 : List TAct) (u1 : List TAct) : Option Bool :=
  (if ((u0.length : Int) != (u1.length : Int)) then some false
  else ((slices_Equal_Act.l0 k u0 u1 k 0).bind fun (o : Lo Bool Unit) => match o with
    | .ret r => some r
    | .brk _ => some true))
def act_Same (k : Nat) (u0 : List TAct) (u1 : List TAct) : Option Bool :=
  ((slices_Equal_Act k u0 u1).bind fun x1 =>
  some x1)
def rule_Equal (k : Nat) (u0 : TRule) (u1 : TRule) : Option Bool :=
  ((act_Same k u0.Acts u1.Acts).bind fun x3 =>
  ((rule_Key (TRule.setActs u0 ([])) (TRule.setActs u1 ([]))).bind fun x5 =>
  some (((((((x3 && x5) && (u0.Idle == u1.Idle)) && (u0.Hard == u1.Hard)) && (u0.Owner == u1.Owner)) && (u0.Hits == u1.Hits)) && (u0.Quiet == u1.Quiet)) && (u0.Age == u1.Age))))
def undo_alone_1 (k : Nat) (u0 : TRule) (y0 : TRule) : Option Bool :=
  ((rule_Equal k y0 u0).bind fun x2 =>
  some x2)
def undo_alone.l0 (k : Nat) (u0 : List TRule) (u1 : List TRule) : Nat → (List TRule) → Int → Option (List TRule)
  | 0, _, _ => none
  | m + 1, x5, x8 =>
    (if (decide (x8 < (u0.length : Int))) then (((idx u0 x8).bind fun x26 =>
      ((slices_ContainsFunc_Rule k u1 (fun (a0 : TRule) => undo_alone_1 k a0 x26)).bind fun x36 =>
      ((if (!x36) then ((app 272 x5 ([x26])).bind fun x49 =>
        some x49)
      else some x5).bind fun (x39 : (List TRule)) =>
      some x39))).bind fun (x21 : (List TRule)) =>
      undo_alone.l0 k u0 u1 m x21 (IntKind.i64.wrap (x8 + 1)))
    else some x5)
def undo_alone (k : Nat) (u0 : List TRule) (u1 : List TRule) : Option (List TRule) :=
  ((undo_alone.l0 k u0 u1 k ([]) 0).bind fun (x9 : (List TRule)) =>
  ((rule_Copy k x9).bind fun x14 =>
  some x14))
def undo_Diff (k : Nat) (u0 : List TRule) (u1 : List TRule) : Option Tundo_Patch :=
  ((rule_Table k u0).bind fun x2 =>
  ((if (!x2) then some true
  else ((rule_Table k u1).bind fun x9 =>
    some (!x9))).bind fun (x6 : Bool) =>
  (if x6 then some Tundo_Patch.zero
  else ((undo_alone k u0 u1).bind fun x13 =>
    ((undo_alone k u1 u0).bind fun x18 =>
    some ({ Gone := x13, New := x18 } : Tundo_Patch))))))
def undo_Inverse (k : Nat) (u0 : List TRule) (u1 : TMod) (u2 : Int) : Option ((List TRule) × Tundo_Patch × Int) :=
  ((mods_Apply k u0 u1 u2).bind fun x3 =>
  (if (x3.2 != 0) then some ([], Tundo_Patch.zero, x3.2)
  else ((undo_Diff k u0 x3.1).bind fun x9 =>
    some (x3.1, x9, 0))))
def undo_swap_1 (u0 : TRule) (y0 : TRule) : Option Bool :=
  ((rule_Key u0 y0).bind fun x2 =>
  some x2)
def undo_swap.l0 (k : Nat) (u2 : List TRule) (x25 : (List TRule)) : Nat → Int → Option (Lo ((List TRule) × Int) Unit)
  | 0, _ => none
  | m + 1, x31 =>
    (if (decide (x31 < (u2.length : Int))) then ((idx u2 x31).bind fun x45 =>
      ((slices_ContainsFunc_Rule k x25 (fun (a0 : TRule) => undo_swap_1 a0 x45)).bind fun x55 =>
      (if x55 then some (Lo.ret ([], 5))
      else undo_swap.l0 k u2 x25 m (IntKind.i64.wrap (x31 + 1)))))
    else some (Lo.brk ()))
def undo_swap (k : Nat) (u0 : List TRule) (u1 : List TRule) (u2 : List TRule) : Option ((List TRule) × Int) :=
  ((rule_Table k u0).bind fun x1 =>
  ((if (!x1) then some true
  else ((rule_Table k u1).bind fun x8 =>
    some (!x8))).bind fun (x5 : Bool) =>
  ((if x5 then some true
  else ((rule_Table k u2).bind fun x15 =>
    some (!x15))).bind fun (x12 : Bool) =>
  (if x12 then some ([], 2)
  else ((undo_alone k u1 u0).bind fun x19 =>
    (if (decide (0 < (x19.length : Int))) then some ([], 4)
    else ((undo_alone k u0 u1).bind fun x25 =>
      ((undo_swap.l0 k u2 x25 k 0).bind fun (o : Lo ((List TRule) × Int) Unit) => match o with
      | .ret r => some r
      | .brk _ => ((app 272 x25 u2).bind fun x36 =>
        ((rule_Sort k x36).bind fun x38 =>
        some (x38, 0)))))))))))
def undo_Back (k : Nat) (u0 : List TRule) (u1 : Tundo_Patch) : Option ((List TRule) × Int) :=
  ((undo_swap k u0 u1.New u1.Gone).bind fun x2 =>
  some (x2.1, x2.2))
def law08_answers (k : Nat)  : Option Bool :=
  ((undo_Inverse k ([]) ({ Kind := 1, Match := TCube.zero, Prio := 0, Acts := [], Idle := 0, Hard := 0, Owner := 0, Check := false } : TMod) 5).bind fun x1 =>
  ((undo_Back k x1.1 x1.2.1).bind fun x11 =>
  some (((((x1.2.2 == 0) && (x11.2 == 0)) && ((x1.1.length : Int) == 1)) && ((x1.2.1.New.length : Int) == 1)) && ((x11.1.length : Int) == 0))))
def ref01_Size (u0 : Int) : Option Int :=
  (if ((decide (u0 < 0)) || (decide (11 < u0))) then some 0
  else ((idx ([16, 48, 48, 16, 12, 4, 32, 32, 8, 8, 12, 12]) u0).bind fun x5 =>
    some x5))
def ref01_Fits (u0 : Int) (u1 : Int) : Option Bool :=
  (if 0 ≤ (IntKind.u64.wrap u1) then some (decide (u0 < (bShl .u64 1 (IntKind.u64.wrap u1)))) else none)
def ref01_Head.l0 (k : Nat) (u0 : Arr 12) : Nat → Int → Option (Lo Bool Unit)
  | 0, _ => none
  | m + 1, x3 =>
    (if (decide (x3 < 12)) then (if 0 ≤ x3 ∧ x3 < 12 then ((ref01_Size x3).bind fun x9 =>
      ((ref01_Fits (u0.at x3) x9).bind fun x11 =>
      (if (!x11) then some (Lo.ret false)
      else ref01_Head.l0 k u0 m (IntKind.i64.wrap (x3 + 1))))) else none)
    else some (Lo.brk ()))
def ref01_Head (k : Nat) (u0 : Arr 12) : Option Bool :=
  ((ref01_Head.l0 k u0 k 0).bind fun (o : Lo Bool Unit) => match o with
  | .ret r => some r
  | .brk _ => some true)
def ref01_Bits.l0 (k : Nat) (u0 : Int) : Nat → (List Bool) → Int → Option (List Bool)
  | 0, _, _ => none
  | m + 1, x5, x8 =>
    (if (decide (0 ≤ x8)) then (if 0 ≤ (IntKind.u64.wrap x8) then ((app 1 x5 ([((bAnd .u64 (bShr .u64 u0 (IntKind.u64.wrap x8)) 1) == 1)])).bind fun x21 =>
      ref01_Bits.l0 k u0 m x21 (IntKind.i64.wrap (x8 - 1))) else none)
    else some x5)
def ref01_Bits (k : Nat) (u0 : Int) (u1 : Int) : Option (List Bool) :=
  ((ref01_Bits.l0 k u0 k ([]) (IntKind.i64.wrap (u1 - 1))).bind fun (x9 : (List Bool)) =>
  some x9)
def ref01_Text.l1 (k : Nat) (x30 : (List Bool)) (x36 : (List Bool)) : Nat → (List Int) → Int → Option (List Int)
  | 0, _, _ => none
  | m + 1, x45, x48 =>
    (if (decide (x48 < (x30.length : Int))) then ((((idx x36 x48).bind fun x66 =>
      ((if (!x66) then ((app 1 x45 ([120])).bind fun x84 =>
        some x84)
      else ((idx x30 x48).bind fun x86 =>
        ((if x86 then ((app 1 x45 ([49])).bind fun x104 =>
          some x104)
        else ((app 1 x45 ([48])).bind fun x110 =>
          some x110)).bind fun (x94 : (List Int)) =>
        some x94))).bind fun (x74 : (List Int)) =>
      some x74)).bind fun (x61 : (List Int)) =>
      some x61).bind fun (x56 : (List Int)) =>
      ref01_Text.l1 k x30 x36 m x56 (IntKind.i64.wrap (x48 + 1)))
    else some x45)
def ref01_Text.l0 (k : Nat) (u0 : TCube) : Nat → (List Int) → Bool → Int → Option ((List Int) × Bool)
  | 0, _, _, _ => none
  | m + 1, x10, x13, x14 =>
    (if (decide (x14 < 12)) then (if 0 ≤ x14 ∧ x14 < 12 then ((if ((bAndNot .u64 (u0.Value.at x14) (u0.Care.at x14)) != 0) then some false
      else some x13).bind fun (x24 : Bool) =>
      ((ref01_Size x14).bind fun x27 =>
      ((ref01_Bits k (u0.Value.at x14) x27).bind fun x30 =>
      ((ref01_Bits k (u0.Care.at x14) x27).bind fun x36 =>
      ((ref01_Text.l1 k x30 x36 k x10 0).bind fun (x49 : (List Int)) =>
      ref01_Text.l0 k u0 m x49 x24 (IntKind.i64.wrap (x14 + 1))))))) else none)
    else some (x10, x13))
def ref01_Text (k : Nat) (u0 : TCube) : Option (ByteArray × Bool) :=
  ((ref01_Head k u0.Care).bind fun x2 =>
  ((ref01_Text.l0 k u0 k ([]) x2 0).bind fun (o : (List Int) × Bool) => match o with
  | (x15, x18) => some ((strOfNums x15), x18)))
def ref01_Cube (k : Nat) (u0 : TCube) : Option Bool :=
  ((ref01_Text k u0).bind fun x2 =>
  some x2.2)
def ref04_Acts.l0 (k : Nat) (u0 : List TAct) : Nat → Int → Option (Lo Bool Unit)
  | 0, _ => none
  | m + 1, x2 =>
    (if (decide (x2 < (u0.length : Int))) then ((idx u0 x2).bind fun x7 =>
      (((if (x7.Kind == 1) then some ((((decide (1 ≤ x7.Port)) && (decide (x7.Port ≤ 16))) && (x7.Field == 0)) && (x7.Value == 0))
      else ((if (x7.Kind == 2) then ((if (((x7.Port == 0) && (decide (0 ≤ x7.Field))) && (decide (x7.Field < 12))) then ((ref01_Size x7.Field).bind fun x35 =>
            ((ref01_Fits x7.Value x35).bind fun x37 =>
            some x37))
          else some false).bind fun (x32 : Bool) =>
          some x32)
        else ((if (x7.Kind == 3) then some (((x7.Port == 0) && (x7.Field == 0)) && (x7.Value == 0))
          else some false).bind fun (x39 : Bool) =>
          some x39)).bind fun (x25 : Bool) =>
        some x25)).bind fun (x18 : Bool) =>
      some x18).bind fun (x14 : Bool) =>
      (if (!x14) then some (Lo.ret false)
      else ref04_Acts.l0 k u0 m (IntKind.i64.wrap (x2 + 1)))))
    else some (Lo.brk ()))
def ref04_Acts (k : Nat) (u0 : List TAct) : Option Bool :=
  ((ref04_Acts.l0 k u0 k 0).bind fun (o : Lo Bool Unit) => match o with
  | .ret r => some r
  | .brk _ => some (decide ((u0.length : Int) ≤ 8)))
def ref04_span (u0 : Int) (u1 : Int) : Option Bool :=
  some ((decide (0 ≤ u0)) && (decide (u0 ≤ u1)))
def ref04_Rule (k : Nat) (u0 : TRule) : Option Bool :=
  ((ref01_Cube k u0.Match).bind fun x2 =>
  ((if x2 then ((ref04_Acts k u0.Acts).bind fun x9 =>
    some x9)
  else some false).bind fun (x6 : Bool) =>
  ((if x6 then ((ref04_span u0.Prio 65535).bind fun x16 =>
    some x16)
  else some false).bind fun (x13 : Bool) =>
  ((if x13 then ((ref04_span u0.Idle 1048576).bind fun x23 =>
    some x23)
  else some false).bind fun (x20 : Bool) =>
  ((if x20 then ((ref04_span u0.Hard 1048576).bind fun x30 =>
    some x30)
  else some false).bind fun (x27 : Bool) =>
  ((if x27 then ((ref04_span u0.Owner 255).bind fun x37 =>
    some x37)
  else some false).bind fun (x34 : Bool) =>
  some (((x34 && (decide (0 ≤ u0.Hits))) && (decide (0 ≤ u0.Quiet))) && (decide (0 ≤ u0.Age)))))))))
def ref01_Order.l0 (k : Nat) (u0 : Arr 12) (u1 : Arr 12) : Nat → Int → Option (Lo Int Unit)
  | 0, _ => none
  | m + 1, x4 =>
    (if (decide (x4 < 12)) then (if 0 ≤ x4 ∧ x4 < 12 then (if (decide ((u0.at x4) < (u1.at x4))) then some (Lo.ret (-1))
      else (if (decide ((u1.at x4) < (u0.at x4))) then some (Lo.ret 1)
        else ref01_Order.l0 k u0 u1 m (IntKind.i64.wrap (x4 + 1)))) else none)
    else some (Lo.brk ()))
def ref01_Order (k : Nat) (u0 : Arr 12) (u1 : Arr 12) : Option Int :=
  ((ref01_Order.l0 k u0 u1 k 0).bind fun (o : Lo Int Unit) => match o with
  | .ret r => some r
  | .brk _ => some 0)
def ref01_Compare (k : Nat) (u0 : TCube) (u1 : TCube) : Option Int :=
  ((ref01_Order k u0.Care u1.Care).bind fun x3 =>
  (if (x3 != 0) then some x3
  else ((ref01_Order k u0.Value u1.Value).bind fun x7 =>
    some x7)))
def ref04_Before (k : Nat) (u0 : TRule) (u1 : TRule) : Option Bool :=
  (if (u0.Prio != u1.Prio) then some (decide (u1.Prio < u0.Prio))
  else ((ref01_Compare k u0.Match u1.Match).bind fun x4 =>
    some (decide (x4 < 0))))
def ref04_Table.l0 (k : Nat) (u0 : List TRule) : Nat → Int → Option (Lo Bool Unit)
  | 0, _ => none
  | m + 1, x2 =>
    (if (decide (x2 < (u0.length : Int))) then ((idx u0 x2).bind fun x7 =>
      ((ref04_Rule k x7).bind fun x16 =>
      ((if (!x16) then some true
      else ((if (decide (0 < x2)) then ((idx u0 (IntKind.i64.wrap (x2 - 1))).bind fun x26 =>
          ((ref04_Before k x26 x7).bind fun x42 =>
          some (!x42)))
        else some false).bind fun (x23 : Bool) =>
        some x23)).bind fun (x19 : Bool) =>
      (if x19 then some (Lo.ret false)
      else ref04_Table.l0 k u0 m (IntKind.i64.wrap (x2 + 1))))))
    else some (Lo.brk ()))
def ref04_Table (k : Nat) (u0 : List TRule) : Option Bool :=
  ((ref04_Table.l0 k u0 k 0).bind fun (o : Lo Bool Unit) => match o with
  | .ret r => some r
  | .brk _ => some true)
def ref04_Mod (k : Nat) (u0 : TMod) : Option Bool :=
  ((if ((decide (u0.Kind < 1)) || (decide (5 < u0.Kind))) then some true
  else ((ref01_Cube k u0.Match).bind fun x7 =>
    some (!x7))).bind fun (x4 : Bool) =>
  ((if x4 then some true
  else ((ref04_Acts k u0.Acts).bind fun x14 =>
    some (!x14))).bind fun (x11 : Bool) =>
  ((if x11 then some true
  else ((ref04_span u0.Prio 65535).bind fun x21 =>
    some (!x21))).bind fun (x18 : Bool) =>
  ((if x18 then some true
  else ((ref04_span u0.Owner 255).bind fun x28 =>
    some (!x28))).bind fun (x25 : Bool) =>
  ((if x25 then some true
  else ((ref04_span u0.Idle 1048576).bind fun x35 =>
    some (!x35))).bind fun (x32 : Bool) =>
  ((if x32 then some true
  else ((ref04_span u0.Hard 1048576).bind fun x42 =>
    some (!x42))).bind fun (x39 : Bool) =>
  (if x39 then some false
  else (if ((u0.Kind != 1) && (((u0.Idle != 0) || (u0.Hard != 0)) || u0.Check)) then some false
    else (if (((u0.Kind == 2) || (u0.Kind == 3)) && (u0.Prio != 0)) then some false
      else some (((u0.Kind != 3) && (u0.Kind != 5)) || ((u0.Acts.length : Int) == 0)))))))))))
def ref04_Key (u0 : TRule) (u1 : TRule) : Option Bool :=
  some ((cellsEq (TCube.enc u0.Match) (TCube.enc u1.Match)) && (u0.Prio == u1.Prio))
def ref01_From.l1 (k : Nat) (u0 : ByteArray) (x10 : Int) : Nat → TCube → Int → Int → Option (TCube × Int)
  | 0, _, _, _ => none
  | m + 1, x21, x22, x23 =>
    ((ref01_Size x10).bind fun x29 =>
    (if (decide (x23 < x29)) then (if 0 ≤ x10 ∧ x10 < 12 then (if 0 ≤ x22 ∧ x22 < u0.size then ((if ((byteAt u0 x22) != 120) then some ({ Value := (x21.Value.upd x10 (IntKind.u64.wrap ((x21.Value.at x10) * 2))), Care := ((x21.Care.upd x10 (IntKind.u64.wrap ((x21.Care.at x10) * 2))).upd x10 (IntKind.u64.wrap (((x21.Care.upd x10 (IntKind.u64.wrap ((x21.Care.at x10) * 2))).at x10) + 1))) } : TCube)
      else some ({ Value := (x21.Value.upd x10 (IntKind.u64.wrap ((x21.Value.at x10) * 2))), Care := (x21.Care.upd x10 (IntKind.u64.wrap ((x21.Care.at x10) * 2))) } : TCube)).bind fun (x35 : TCube) =>
      ((if ((byteAt u0 x22) == 49) then some (TCube.setValue x35 (x35.Value.upd x10 (IntKind.u64.wrap ((x35.Value.at x10) + 1))))
      else some x35).bind fun (x38 : TCube) =>
      ref01_From.l1 k u0 x10 m x38 (IntKind.i64.wrap (x22 + 1)) (IntKind.i64.wrap (x23 + 1)))) else none) else none)
    else some (x21, x22)))
def ref01_From.l0 (k : Nat) (u0 : ByteArray) : Nat → TCube → Int → Int → Option TCube
  | 0, _, _, _ => none
  | m + 1, x8, x9, x10 =>
    (if (decide (x10 < 12)) then ((ref01_From.l1 k u0 x10 k x8 x9 0).bind fun (o : TCube × Int) => match o with
      | (x24, x25) => ref01_From.l0 k u0 m x24 x25 (IntKind.i64.wrap (x10 + 1)))
    else some x8)
def ref01_From (k : Nat) (u0 : ByteArray) : Option TCube :=
  ((ref01_From.l0 k u0 k TCube.zero 0 0).bind fun (x11 : TCube) =>
  some x11)
def ref01_Meet.l0 (k : Nat) (x4 : ByteArray × Bool) (x7 : ByteArray × Bool) : Nat → (List Int) → Int → Option (Lo (TCube × Bool) (List Int))
  | 0, _, _ => none
  | m + 1, x19, x20 =>
    (if (decide (x20 < (x4.1.size : Int))) then ((if 0 ≤ x20 ∧ x20 < x4.1.size then ((if ((byteAt x4.1 x20) == 120) then (if 0 ≤ x20 ∧ x20 < x7.1.size then ((idx x19 x20).bind fun x38 =>
        some (Lo.brk (x19.set x20.toNat (byteAt x7.1 x20)))) else none)
      else (if 0 ≤ x20 ∧ x20 < x7.1.size then (if (((byteAt x7.1 x20) != 120) && ((byteAt x4.1 x20) != (byteAt x7.1 x20))) then some (Lo.ret (TCube.zero, false))
        else some (Lo.brk x19)) else none)).bind fun (o : Lo (TCube × Bool) (List Int)) => match o with
      | .ret r => some (Lo.ret r)
      | .brk x33 => some (Lo.brk x33)) else none).bind fun (o : Lo (TCube × Bool) (List Int)) => match o with
      | .ret r => some (Lo.ret r)
      | .brk x29 => ref01_Meet.l0 k x4 x7 m x29 (IntKind.i64.wrap (x20 + 1)))
    else some (Lo.brk x19))
def ref01_Meet (k : Nat) (u0 : TCube) (u1 : TCube) : Option (TCube × Bool) :=
  ((ref01_Text k u0).bind fun x4 =>
  ((ref01_Text k u1).bind fun x7 =>
  (if ((!x4.2) || (!x7.2)) then some (TCube.zero, false)
  else ((toBytes x4.1).bind fun x14 =>
    ((ref01_Meet.l0 k x4 x7 k x14 0).bind fun (o : Lo (TCube × Bool) (List Int)) => match o with
    | .ret r => some r
    | .brk x21 => ((ref01_From k (strOfNums x21)).bind fun x24 =>
      some (x24, true)))))))
def ref04_Overlap (k : Nat) (u0 : TRule) (u1 : TRule) : Option Bool :=
  ((ref01_Meet k u0.Match u1.Match).bind fun x3 =>
  some ((u0.Prio == u1.Prio) && x3.2))
def ref04_Sort.l1 (k : Nat) (x5 : List TRule) (x21 : TRule) : Nat → Int → Option Int
  | 0, _ => none
  | m + 1, x35 =>
    ((if (decide (x35 < (x5.length : Int))) then ((idx x5 x35).bind fun x194 =>
      ((ref04_Before k x194 x21).bind fun x212 =>
      some x212))
    else some false).bind fun (x191 : Bool) =>
    (if x191 then ref04_Sort.l1 k x5 x21 m (IntKind.i64.wrap (x35 + 1))
    else some x35))
def ref04_Sort.l0 (k : Nat) (u0 : List TRule) : Nat → (List TRule) → Int → Option (List TRule)
  | 0, _, _ => none
  | m + 1, x5, x8 =>
    (if (decide (x8 < (u0.length : Int))) then (((idx u0 x8).bind fun x21 =>
      ((ref04_Rule k x21).bind fun x30 =>
      (if (!x30) then some x5
      else ((ref04_Sort.l1 k x5 x21 k 0).bind fun (x36 : Int) =>
        (if 0 ≤ x36 ∧ x36 ≤ (x5.length : Int) ∧ (x5.length : Int) ≤ x5.length then ((app 272 ([] : List TRule) ((x5.take x5.length).drop x36.toNat)).bind fun x47 =>
        ((if (decide (0 < (x47.length : Int))) then ((idx x47 0).bind fun x53 =>
          ((ref04_Key x53 x21).bind fun x71 =>
          some x71))
        else some false).bind fun (x50 : Bool) =>
        ((if x50 then (if 0 ≤ 1 ∧ 1 ≤ (x47.length : Int) ∧ (x47.length : Int) ≤ x47.length then some ((x47.take x47.length).drop (1 : Int).toNat) else none)
        else some x47).bind fun (x73 : (List TRule)) =>
        ((if 0 ≤ 0 ∧ 0 ≤ x36 ∧ x36 ≤ x5.length then ((app 272 ([] : List TRule) ((x5.take x36.toNat).drop 0)).bind fun x91 =>
        ((app 272 x91 ([x21])).bind fun x93 =>
        ((app 272 x93 x73).bind fun x95 =>
        some x95))) else none).bind fun (x78 : (List TRule)) =>
        some x78)))) else none))))).bind fun (x16 : (List TRule)) =>
      ref04_Sort.l0 k u0 m x16 (IntKind.i64.wrap (x8 + 1)))
    else some x5)
def ref04_Sort (k : Nat) (u0 : List TRule) : Option (List TRule) :=
  ((ref04_Sort.l0 k u0 k ([]) 0).bind fun (x9 : (List TRule)) =>
  some x9)
def ref01_Plain.l0 (k : Nat) (u0 : TCube) : Nat → Int → Option (Lo Bool Unit)
  | 0, _ => none
  | m + 1, x3 =>
    (if (decide (x3 < 12)) then (if 0 ≤ x3 ∧ x3 < 12 then (if ((bAndNot .u64 (u0.Value.at x3) (u0.Care.at x3)) != 0) then some (Lo.ret false)
      else ref01_Plain.l0 k u0 m (IntKind.i64.wrap (x3 + 1))) else none)
    else some (Lo.brk ()))
def ref01_Plain (k : Nat) (u0 : TCube) : Option Bool :=
  ((ref01_Plain.l0 k u0 k 0).bind fun (o : Lo Bool Unit) => match o with
  | .ret r => some r
  | .brk _ => ((ref01_Head k u0.Care).bind fun x6 =>
    some x6))
def ref01_Within.l0 (k : Nat) (u0 : TCube) (u1 : TCube) : Nat → Int → Option (Lo Bool Unit)
  | 0, _ => none
  | m + 1, x4 =>
    (if (decide (x4 < 12)) then (if 0 ≤ x4 ∧ x4 < 12 then (if (((bAndNot .u64 (u1.Care.at x4) (u0.Care.at x4)) != 0) || ((bAnd .u64 (bXor .u64 (u0.Value.at x4) (u1.Value.at x4)) (u1.Care.at x4)) != 0)) then some (Lo.ret false)
      else ref01_Within.l0 k u0 u1 m (IntKind.i64.wrap (x4 + 1))) else none)
    else some (Lo.brk ()))
def ref01_Within (k : Nat) (u0 : TCube) (u1 : TCube) : Option Bool :=
  ((ref01_Within.l0 k u0 u1 k 0).bind fun (o : Lo Bool Unit) => match o with
  | .ret r => some r
  | .brk _ => ((ref01_Plain k u0).bind fun x7 =>
    ((if x7 then ((ref01_Plain k u1).bind fun x14 =>
      some x14)
    else some false).bind fun (x11 : Bool) =>
    some x11)))
def ref04_Touched.l0 (k : Nat) (u0 : List TRule) (u1 : TMod) : Nat → (List Int) → Int → Option (List Int)
  | 0, _, _ => none
  | m + 1, x6, x9 =>
    (if (decide (x9 < (u0.length : Int))) then (((idx u0 x9).bind fun x22 =>
      (((if (u1.Kind == 2) then some (u1.Kind == 2)
      else some (u1.Kind == 3)).bind fun (x54 : Bool) =>
      ((if x54 then ((if (x22.Owner == u1.Owner) then ((ref01_Within k x22.Match u1.Match).bind fun x65 =>
          some x65)
        else some false).bind fun (x62 : Bool) =>
        some x62)
      else ((if (u1.Kind == 4) then some (u1.Kind == 4)
        else some (u1.Kind == 5)).bind fun (x68 : Bool) =>
        ((if x68 then some (((x22.Owner == u1.Owner) && (cellsEq (TCube.enc x22.Match) (TCube.enc u1.Match))) && (x22.Prio == u1.Prio))
        else some false).bind fun (x71 : Bool) =>
        some x71))).bind fun (x57 : Bool) =>
      some x57)).bind fun (x32 : Bool) =>
      ((if x32 then ((ref04_Mod k u1).bind fun x39 =>
        some x39)
      else some false).bind fun (x36 : Bool) =>
      ((if x36 then ((app 8 x6 ([x9])).bind fun x52 =>
        some x52)
      else some x6).bind fun (x42 : (List Int)) =>
      some x42)))).bind fun (x17 : (List Int)) =>
      ref04_Touched.l0 k u0 u1 m x17 (IntKind.i64.wrap (x9 + 1)))
    else some x6)
def ref04_Touched (k : Nat) (u0 : List TRule) (u1 : TMod) : Option (List Int) :=
  ((ref04_Touched.l0 k u0 u1 k ([]) 0).bind fun (x10 : (List Int)) =>
  some x10)
def ref04_Apply.l0 (k : Nat) (u0 : List TRule) (u1 : TMod) : Nat → Bool → Bool → Int → Option (Lo ((List TRule) × Int) (Bool × Bool))
  | 0, _, _, _ => none
  | m + 1, x18, x19, x20 =>
    (if (decide (x20 < (u0.length : Int))) then (((idx u0 x20).bind fun x78 =>
      ((ref04_Key x78 ({ Match := u1.Match, Prio := u1.Prio, Acts := u1.Acts, Idle := u1.Idle, Hard := u1.Hard, Owner := u1.Owner, Hits := 0, Quiet := 0, Age := 0 } : TRule)).bind fun x87 =>
      ((if x87 then (if (x78.Owner != u1.Owner) then some (Lo.ret ([], 7))
        else some (Lo.brk (true, x19)))
      else ((if x19 then some true
        else ((ref04_Overlap k x78 ({ Match := u1.Match, Prio := u1.Prio, Acts := u1.Acts, Idle := u1.Idle, Hard := u1.Hard, Owner := u1.Owner, Hits := 0, Quiet := 0, Age := 0 } : TRule)).bind fun x113 =>
          some x113)).bind fun (x103 : Bool) =>
        some (Lo.brk (x18, x103)))).bind fun (o : Lo ((List TRule) × Int) (Bool × Bool)) => match o with
      | .ret r => some (Lo.ret r)
      | .brk (x89, x90) => some (Lo.brk (x89, x90))))).bind fun (o : Lo ((List TRule) × Int) (Bool × Bool)) => match o with
      | .ret r => some (Lo.ret r)
      | .brk (x74, x75) => ref04_Apply.l0 k u0 u1 m x74 x75 (IntKind.i64.wrap (x20 + 1)))
    else some (Lo.brk (x18, x19)))
def ref04_Apply.l1 (k : Nat) (u0 : List TRule) (u1 : TMod) : Nat → (List TRule) → (List Int) → Int → Option (List TRule)
  | 0, _, _, _ => none
  | m + 1, x134, x137, x140 =>
    (if (decide (x140 < (u0.length : Int))) then (((idx u0 x140).bind fun x156 =>
      ((if (decide (0 < (x137.length : Int))) then ((idx x137 0).bind fun x170 =>
        some (x170 == x140))
      else some false).bind fun (x167 : Bool) =>
      (if x167 then (if 0 ≤ 1 ∧ 1 ≤ (x137.length : Int) ∧ (x137.length : Int) ≤ x137.length then (if ((u1.Kind == 3) || (u1.Kind == 5)) then some (x134, ((x137.take x137.length).drop (1 : Int).toNat))
        else ((app 272 x134 ([(TRule.setActs x156 u1.Acts)])).bind fun x187 =>
          some (x187, ((x137.take x137.length).drop (1 : Int).toNat)))) else none)
      else ((app 272 x134 ([x156])).bind fun x193 =>
        some (x193, x137))))).bind fun (o : (List TRule) × (List Int)) => match o with
      | (x148, x151) => ref04_Apply.l1 k u0 u1 m x148 x151 (IntKind.i64.wrap (x140 + 1)))
    else some x134)
def ref04_Apply (k : Nat) (u0 : List TRule) (u1 : TMod) (u2 : Int) : Option ((List TRule) × Int) :=
  ((ref04_Table k u0).bind fun x2 =>
  ((if (!x2) then some true
  else ((ref04_Mod k u1).bind fun x9 =>
    some (!x9))).bind fun (x6 : Bool) =>
  (if x6 then some ([], 2)
  else (if (u1.Kind == 1) then ((ref04_Apply.l0 k u0 u1 k false false 0).bind fun (o : Lo ((List TRule) × Int) (Bool × Bool)) => match o with
      | .ret r => some r
      | .brk (x21, x22) => (if (u1.Check && x22) then some ([], 6)
        else (if ((!x21) && (decide (u2 ≤ (u0.length : Int)))) then some ([], 3)
          else (((app 272 ([] : List TRule) u0).bind fun x35 =>
            ((app 272 x35 ([({ Match := u1.Match, Prio := u1.Prio, Acts := u1.Acts, Idle := u1.Idle, Hard := u1.Hard, Owner := u1.Owner, Hits := 0, Quiet := 0, Age := 0 } : TRule)])).bind fun x37 =>
            ((ref04_Sort k x37).bind fun x39 =>
            some (x39, 0)))).bind fun (o : (List TRule) × Int) => match o with
            | (x29, x32) => some (x29, x32)))))
    else ((ref04_Touched k u0 u1).bind fun x115 =>
      ((ref04_Apply.l1 k u0 u1 k ([]) x115 0).bind fun (x141 : (List TRule)) =>
      some (x141, 0)))))))
def ref04_SameActs.l0 (k : Nat) (u0 : List TAct) (u1 : List TAct) : Nat → Int → Option (Lo Bool Unit)
  | 0, _ => none
  | m + 1, x3 =>
    (if (decide (x3 < (u0.length : Int))) then ((idx u0 x3).bind fun x8 =>
      ((idx u1 x3).bind fun x14 =>
      (if (!(cellsEq (TAct.enc x8) (TAct.enc x14))) then some (Lo.ret false)
      else ref04_SameActs.l0 k u0 u1 m (IntKind.i64.wrap (x3 + 1)))))
    else some (Lo.brk ()))
def ref04_SameActs (k : Nat) (u0 : List TAct) (u1 : List TAct) : Option Bool :=
  (if ((u0.length : Int) != (u1.length : Int)) then some false
  else ((ref04_SameActs.l0 k u0 u1 k 0).bind fun (o : Lo Bool Unit) => match o with
    | .ret r => some r
    | .brk _ => some true))
def ref04_Equal (k : Nat) (u0 : TRule) (u1 : TRule) : Option Bool :=
  ((ref04_Key u0 u1).bind fun x3 =>
  ((if x3 then ((ref04_SameActs k u0.Acts u1.Acts).bind fun x10 =>
    some x10)
  else some false).bind fun (x7 : Bool) =>
  some ((((((x7 && (u0.Idle == u1.Idle)) && (u0.Hard == u1.Hard)) && (u0.Owner == u1.Owner)) && (u0.Hits == u1.Hits)) && (u0.Quiet == u1.Quiet)) && (u0.Age == u1.Age))))
def ref04_Same.l0 (k : Nat) (u0 : List TRule) (u1 : List TRule) : Nat → Int → Option (Lo Bool Unit)
  | 0, _ => none
  | m + 1, x3 =>
    (if (decide (x3 < (u0.length : Int))) then ((idx u0 x3).bind fun x8 =>
      ((idx u1 x3).bind fun x17 =>
      ((ref04_Equal k x8 x17).bind fun x26 =>
      (if (!x26) then some (Lo.ret false)
      else ref04_Same.l0 k u0 u1 m (IntKind.i64.wrap (x3 + 1))))))
    else some (Lo.brk ()))
def ref04_Same (k : Nat) (u0 : List TRule) (u1 : List TRule) : Option Bool :=
  (if ((u0.length : Int) != (u1.length : Int)) then some false
  else ((ref04_Same.l0 k u0 u1 k 0).bind fun (o : Lo Bool Unit) => match o with
    | .ret r => some r
    | .brk _ => some true))
def law08_UndoChanges.l1 (k : Nat) (x20 : List Tundo_Patch) : Nat → (List TRule) → Int → Option (Lo Bool (List TRule))
  | 0, _, _ => none
  | m + 1, x32, x35 =>
    (if (decide (0 ≤ x35)) then ((idx x20 x35).bind fun x53 =>
      ((undo_Back k x32 x53).bind fun x67 =>
      (if (x67.2 != 0) then some (Lo.ret false)
      else law08_UndoChanges.l1 k x20 m x67.1 (IntKind.i64.wrap (x35 - 1)))))
    else some (Lo.brk x32))
def law08_UndoChanges.l0 (k : Nat) (u1 : List TMod) (u2 : Int) : Nat → (List Tundo_Patch) → (List TRule) → Int → Option (Lo Bool ((List Tundo_Patch) × (List TRule)))
  | 0, _, _, _ => none
  | m + 1, x13, x16, x19 =>
    (if (decide (x19 < (u1.length : Int))) then (((idx u1 x19).bind fun x83 =>
      (if (decide (20 < (x83.Acts.length : Int))) then ((law08_answers k).bind fun x93 =>
        some (Lo.ret x93))
      else ((undo_Inverse k x16 x83 u2).bind fun x103 =>
        ((ref04_Apply k x16 x83 u2).bind fun x120 =>
        ((if (x103.2.2 != x120.2) then some true
        else ((ref04_Same k x103.1 x120.1).bind fun x129 =>
          some (!x129))).bind fun (x126 : Bool) =>
        (if (x126 || ((x103.2.2 != 0) && (decide (0 < (IntKind.i64.wrap ((x103.2.1.Gone.length : Int) + (x103.2.1.New.length : Int))))))) then some (Lo.ret false)
        else ((if (x103.2.2 == 0) then ((app 48 x13 ([x103.2.1])).bind fun x148 =>
            some (x148, x103.1))
          else some (x13, x16)).bind fun (o : (List Tundo_Patch) × (List TRule)) => match o with
          | (x135, x138) => some (Lo.brk (x135, x138))))))))).bind fun (o : Lo Bool ((List Tundo_Patch) × (List TRule))) => match o with
      | .ret r => some (Lo.ret r)
      | .brk (x75, x78) => law08_UndoChanges.l0 k u1 u2 m x75 x78 (IntKind.i64.wrap (x19 + 1)))
    else some (Lo.brk (x13, x16)))
def law08_UndoChanges (k : Nat) (u0 : List TRule) (u1 : List TMod) (u2 : Int) : Option Bool :=
  (if ((decide (40 < (u0.length : Int))) || (decide (12 < (u1.length : Int)))) then ((law08_answers k).bind fun x3 =>
    some x3)
  else ((law08_UndoChanges.l0 k u1 u2 k ([]) u0 0).bind fun (o : Lo Bool ((List Tundo_Patch) × (List TRule))) => match o with
    | .ret r => some r
    | .brk (x20, x23) => ((law08_UndoChanges.l1 k x20 k x23 (IntKind.i64.wrap ((x20.length : Int) - 1))).bind fun (o : Lo Bool (List TRule)) => match o with
      | .ret r => some r
      | .brk x36 => ((law08_answers k).bind fun x41 =>
        ((if x41 then ((ref04_Same k x36 u0).bind fun x48 =>
          some x48)
        else some false).bind fun (x45 : Bool) =>
        some x45)))))
end Go.Proofs.Ytangebngeeamoaa
