/- Plain functions with the same answers as the Go functions. -/
import Derived.Test.YtgfnkigoaajllaaGreatD
import Derived.Test.YtgfnkigoaajllaaGreatL18
import Derived.Test.YtgfnkigoaajllaaGreatL20
set_option linter.unusedVariables false
set_option linter.unusedSimpArgs false
set_option maxRecDepth 100000
set_option maxHeartbeats 4000000
namespace Go.Proofs.YtgfnkigoaajllaaGreat
open Go.RowKit Go.Pod
def shadow_New (u0 : Int) : Option Tshadow_Shadow :=
  ((mkS 24 ([] : List TRule) (min (max u0 0) 8)).bind fun x3 =>
  some ({ base := x3, open_ := [] } : Tshadow_Shadow))
def shadow_Shadow_find_1 (u0 : Tshadow_open) (y0 : Int) : Option Bool :=
  some (u0.id == y0)
def slices_IndexFunc_open.l0 (k : Nat) (u0 : List Tshadow_open) (u1 : Tshadow_open → Option Bool) : Nat → Int → Option (Lo Int Unit)
  | 0, _ => none
  | m + 1, x2 =>
    (if (decide (x2 < (u0.length : Int))) then ((idx u0 x2).bind fun x7 =>
      ((u1 x7).bind fun x16 =>
      (if x16 then some (Lo.ret x2)
      else slices_IndexFunc_open.l0 k u0 u1 m (IntKind.i64.wrap (x2 + 1)))))
    else some (Lo.brk ()))
def slices_IndexFunc_open (k : Nat) (u0 : List Tshadow_open) (u1 : Tshadow_open → Option Bool) : Option Int :=
  ((slices_IndexFunc_open.l0 k u0 u1 k 0).bind fun (o : Lo Int Unit) => match o with
  | .ret r => some r
  | .brk _ => some (-1))
def shadow_Shadow_find (k : Nat) (u0 : Tshadow_Shadow) (u1 : Int) : Option Int :=
  ((slices_IndexFunc_open k u0.open_ (fun (a0 : Tshadow_open) => shadow_Shadow_find_1 a0 u1)).bind fun x2 =>
  some x2)
def shadow_Shadow_Begin_1 (u0 : TChange) (y0 : Tshadow_Shadow) : Option Bool :=
  some ((decide (u0.Unit < 0)) || (decide ((y0.base.length : Int) ≤ u0.Unit)))
def slices_IndexFunc_Change.l0 (k : Nat) (u0 : List TChange) (u1 : TChange → Option Bool) : Nat → Int → Option (Lo Int Unit)
  | 0, _ => none
  | m + 1, x2 =>
    (if (decide (x2 < (u0.length : Int))) then ((idx u0 x2).bind fun x7 =>
      ((u1 x7).bind fun x16 =>
      (if x16 then some (Lo.ret x2)
      else slices_IndexFunc_Change.l0 k u0 u1 m (IntKind.i64.wrap (x2 + 1)))))
    else some (Lo.brk ()))
def slices_IndexFunc_Change (k : Nat) (u0 : List TChange) (u1 : TChange → Option Bool) : Option Int :=
  ((slices_IndexFunc_Change.l0 k u0 u1 k 0).bind fun (o : Lo Int Unit) => match o with
  | .ret r => some r
  | .brk _ => some (-1))
def slices_ContainsFunc_Change (k : Nat) (u0 : List TChange) (u1 : TChange → Option Bool) : Option Bool :=
  ((slices_IndexFunc_Change k u0 u1).bind fun x1 =>
  some (decide (0 ≤ x1)))
def slices_Clone_Change (u0 : List TChange) : Option (List TChange) :=
  ((app 272 ([] : List TChange) u0).bind fun x6 =>
  some x6)
def shadow_Shadow_Begin (k : Nat) (u0 : Tshadow_Shadow) (u1 : Int) (u2 : List TChange) : Option (Tshadow_Shadow × Int) :=
  (if false then some (u0, 1)
  else ((shadow_Shadow_find k u0 u1).bind fun x3 =>
    (if (decide (0 ≤ x3)) then some (u0, 5)
    else ((slices_ContainsFunc_Change k u2 (fun (a0 : TChange) => shadow_Shadow_Begin_1 a0 u0)).bind fun x6 =>
      (if x6 then some (u0, 1)
      else ((slices_Clone_Change u2).bind fun x10 =>
        ((app 32 u0.open_ ([({ id := u1, list := x10 } : Tshadow_open)])).bind fun x19 =>
        some ((Tshadow_Shadow.setopen u0 x19), 0))))))))
def slices_Clone_Act (u0 : List TAct) : Option (List TAct) :=
  ((app 32 ([] : List TAct) u0).bind fun x6 =>
  some x6)
def slices_Clip_Act (u0 : List TAct) : Option (List TAct) :=
  some u0
def region_For.l0 (k : Nat) (u0 : List TChange) (u1 : Int) : Nat → (List TMod) → Int → Option (List TMod)
  | 0, _, _ => none
  | m + 1, x5, x8 =>
    (if (decide (x8 < (u0.length : Int))) then (((idx u0 x8).bind fun x21 =>
      ((if (x21.Unit == u1) then ((slices_Clone_Act x21.Mod.Acts).bind fun x38 =>
        ((slices_Clip_Act x38).bind fun x43 =>
        ((app 264 x5 ([(TMod.setActs x21.Mod x43)])).bind fun x51 =>
        some x51)))
      else some x5).bind fun (x31 : (List TMod)) =>
      some x31)).bind fun (x16 : (List TMod)) =>
      region_For.l0 k u0 u1 m x16 (IntKind.i64.wrap (x8 + 1)))
    else some x5)
def region_For (k : Nat) (u0 : List TChange) (u1 : Int) : Option (List TMod) :=
  ((region_For.l0 k u0 u1 k ([]) 0).bind fun (x9 : (List TMod)) =>
  some x9)
def head_there (u0 : Int) : Option Bool :=
  some ((decide (0 ≤ u0)) && (decide (u0 < 12)))
def head_fields  : Option (Fin 12 → Thead_field) :=
  some ((fun q => bif Nat.beq q.val 0 then ({ name_ := (ByteArray.mk #[105, 110]), size_ := 16 } : Thead_field) else bif Nat.beq q.val 1 then ({ name_ := (ByteArray.mk #[101, 115, 114, 99]), size_ := 48 } : Thead_field) else bif Nat.beq q.val 2 then ({ name_ := (ByteArray.mk #[101, 100, 115, 116]), size_ := 48 } : Thead_field) else bif Nat.beq q.val 3 then ({ name_ := (ByteArray.mk #[101, 116, 121, 112, 101]), size_ := 16 } : Thead_field) else bif Nat.beq q.val 4 then ({ name_ := (ByteArray.mk #[118, 108, 97, 110]), size_ := 12 } : Thead_field) else bif Nat.beq q.val 5 then ({ name_ := (ByteArray.mk #[112, 99, 112]), size_ := 4 } : Thead_field) else bif Nat.beq q.val 6 then ({ name_ := (ByteArray.mk #[115, 114, 99]), size_ := 32 } : Thead_field) else bif Nat.beq q.val 7 then ({ name_ := (ByteArray.mk #[100, 115, 116]), size_ := 32 } : Thead_field) else bif Nat.beq q.val 8 then ({ name_ := (ByteArray.mk #[112, 114, 111, 116, 111]), size_ := 8 } : Thead_field) else bif Nat.beq q.val 9 then ({ name_ := (ByteArray.mk #[116, 111, 115]), size_ := 8 } : Thead_field) else bif Nat.beq q.val 10 then ({ name_ := (ByteArray.mk #[115, 112, 111, 114, 116]), size_ := 12 } : Thead_field) else bif Nat.beq q.val 11 then ({ name_ := (ByteArray.mk #[100, 112, 111, 114, 116]), size_ := 12 } : Thead_field) else Thead_field.zero) : Fin 12 → Thead_field)
def head_Size (u0 : Int) : Option Int :=
  ((head_there u0).bind fun x1 =>
  (if (!x1) then some 0
  else ((head_fields).bind fun x5 =>
    (if 0 ≤ u0 ∧ u0 < 12 then some ((atA Thead_field.zero x5 u0).size_) else none))))
def head_fits (u0 : Int) (u1 : Int) : Option Bool :=
  ((head_Size u0).bind fun x1 =>
  (if 0 ≤ x1 then some ((bShr .u64 u1 x1) == 0) else none))
def head_Sound.l0 (k : Nat) (u0 : Arr 12) : Nat → Int → Option (Lo Bool Unit)
  | 0, _ => none
  | m + 1, x3 =>
    (if (decide (x3 < 12)) then (if 0 ≤ x3 ∧ x3 < 12 then ((head_fits x3 (u0.at x3)).bind fun x9 =>
      (if (!x9) then some (Lo.ret false)
      else head_Sound.l0 k u0 m (IntKind.i64.wrap (x3 + 1)))) else none)
    else some (Lo.brk ()))
def head_Sound (k : Nat) (u0 : Arr 12) : Option Bool :=
  ((head_Sound.l0 k u0 k 0).bind fun (o : Lo Bool Unit) => match o with
  | .ret r => some r
  | .brk _ => some true)
def cube_Sound.l0 (k : Nat) (u0 : TCube) : Nat → Int → Option (Lo Bool Unit)
  | 0, _ => none
  | m + 1, x7 =>
    (if (decide (x7 < 12)) then (if 0 ≤ x7 ∧ x7 < 12 then (if ((bAndNot .u64 (u0.Value.at x7) (u0.Care.at x7)) != 0) then some (Lo.ret false)
      else cube_Sound.l0 k u0 m (IntKind.i64.wrap (x7 + 1))) else none)
    else some (Lo.brk ()))
def cube_Sound (k : Nat) (u0 : TCube) : Option Bool :=
  ((head_Sound k u0.Care).bind fun x2 =>
  (if (!x2) then some false
  else ((cube_Sound.l0 k u0 k 0).bind fun (o : Lo Bool Unit) => match o with
    | .ret r => some r
    | .brk _ => some true)))
def slices_IndexFunc_Act.l0 (k : Nat) (u0 : List TAct) (u1 : TAct → Option Bool) : Nat → Int → Option (Lo Int Unit)
  | 0, _ => none
  | m + 1, x2 =>
    (if (decide (x2 < (u0.length : Int))) then ((idx u0 x2).bind fun x7 =>
      ((u1 x7).bind fun x13 =>
      (if x13 then some (Lo.ret x2)
      else slices_IndexFunc_Act.l0 k u0 u1 m (IntKind.i64.wrap (x2 + 1)))))
    else some (Lo.brk ()))
def slices_IndexFunc_Act (k : Nat) (u0 : List TAct) (u1 : TAct → Option Bool) : Option Int :=
  ((slices_IndexFunc_Act.l0 k u0 u1 k 0).bind fun (o : Lo Int Unit) => match o with
  | .ret r => some r
  | .brk _ => some (-1))
def slices_ContainsFunc_Act (k : Nat) (u0 : List TAct) (u1 : TAct → Option Bool) : Option Bool :=
  ((slices_IndexFunc_Act k u0 u1).bind fun x1 =>
  some (decide (0 ≤ x1)))
def head_Set (u0 : Arr 12) (u1 : Int) (u2 : Int) : Option ((Arr 12) × Int) :=
  ((head_there u1).bind fun x3 =>
  (if (!x3) then some (A12u64.zero, 1)
  else ((head_fits u1 u2).bind fun x7 =>
    (if (!x7) then some (A12u64.zero, 13)
    else (if 0 ≤ u1 ∧ u1 < 12 then some ((u0.upd u1 u2), 0) else none)))))
def act_sound (u0 : TAct) : Option Bool :=
  (if (u0.Kind == 1) then some ((((decide (1 ≤ u0.Port)) && (decide (u0.Port ≤ 16))) && (u0.Field == 0)) && (u0.Value == 0))
  else (if (u0.Kind == 2) then ((head_Set A12u64.zero u0.Field u0.Value).bind fun x7 =>
      some ((x7.2 == 0) && (u0.Port == 0)))
    else some (cellsEq (TAct.enc u0) (TAct.enc ({ Kind := 3, Port := 0, Field := 0, Value := 0 } : TAct)))))
def act_Sound_1 (u0 : TAct) : Option Bool :=
  ((act_sound u0).bind fun x2 =>
  some (!x2))
def act_Sound (k : Nat) (u0 : List TAct) : Option Bool :=
  ((if (decide ((u0.length : Int) ≤ 8)) then ((slices_ContainsFunc_Act k u0 (fun (a0 : TAct) => act_Sound_1 a0)).bind fun x4 =>
    some (!x4))
  else some false).bind fun (x2 : Bool) =>
  some x2)
def rule_span (u0 : Int) (u1 : Int) : Option Bool :=
  some ((decide (0 ≤ u0)) && (decide (u0 ≤ u1)))
def rule_Sound (k : Nat) (u0 : TRule) : Option Bool :=
  ((cube_Sound k u0.Match).bind fun x2 =>
  ((if x2 then ((act_Sound k u0.Acts).bind fun x8 =>
    some x8)
  else some false).bind fun (x6 : Bool) =>
  ((if x6 then ((rule_span u0.Prio 65535).bind fun x14 =>
    some x14)
  else some false).bind fun (x12 : Bool) =>
  ((if x12 then ((rule_span u0.Idle 1048576).bind fun x20 =>
    some x20)
  else some false).bind fun (x18 : Bool) =>
  ((if x18 then ((rule_span u0.Hard 1048576).bind fun x26 =>
    some x26)
  else some false).bind fun (x24 : Bool) =>
  ((if x24 then ((rule_span u0.Owner 255).bind fun x32 =>
    some x32)
  else some false).bind fun (x30 : Bool) =>
  some (x30 && (decide (0 ≤ (min (min u0.Hits u0.Quiet) u0.Age))))))))))
def slices_CompareFunc_uint64.l0 (k : Nat) (u0 : List Int) (u1 : List Int) (u2 : Int → Int → Option Int) : Nat → Int → Option (Lo Int Unit)
  | 0, _ => none
  | m + 1, x2 =>
    (if (decide (x2 < (u0.length : Int))) then ((idx u0 x2).bind fun x8 =>
      (if (decide ((u1.length : Int) ≤ x2)) then some (Lo.ret 1)
      else ((idx u1 x2).bind fun x15 =>
        ((u2 x8 x15).bind fun x21 =>
        (if (x21 != 0) then some (Lo.ret x21)
        else slices_CompareFunc_uint64.l0 k u0 u1 u2 m (IntKind.i64.wrap (x2 + 1)))))))
    else some (Lo.brk ()))
def slices_CompareFunc_uint64 (k : Nat) (u0 : List Int) (u1 : List Int) (u2 : Int → Int → Option Int) : Option Int :=
  ((slices_CompareFunc_uint64.l0 k u0 u1 u2 k 0).bind fun (o : Lo Int Unit) => match o with
  | .ret r => some r
  | .brk _ => (if (decide ((u0.length : Int) < (u1.length : Int))) then some (-1)
    else some 0))
def cmp_isNaN_uint64 (u0 : Int) : Option Bool :=
  some (u0 != u0)
def cmp_Compare_uint64 (u0 : Int) (u1 : Int) : Option Int :=
  ((cmp_isNaN_uint64 u0).bind fun x1 =>
  ((cmp_isNaN_uint64 u1).bind fun x4 =>
  (if x1 then (if x4 then some 0
    else some (-1))
  else (if x4 then some 1
    else (if (decide (u0 < u1)) then some (-1)
      else (if (decide (u1 < u0)) then some 1
        else some 0))))))
def head_Compare (k : Nat) (u0 : Arr 12) (u1 : Arr 12) : Option Int :=
  ((slices_CompareFunc_uint64 k (A12u64.list u0) (A12u64.list u1) (fun (a0 : Int) (a1 : Int) => cmp_Compare_uint64 a0 a1)).bind fun x3 =>
  some x3)
def cmp_Or_int.l0 (k : Nat) (u0 : List Int) : Nat → Int → Option (Lo Int Unit)
  | 0, _ => none
  | m + 1, x2 =>
    (if (decide (x2 < (u0.length : Int))) then ((idx u0 x2).bind fun x7 =>
      (if (x7 != 0) then some (Lo.ret x7)
      else cmp_Or_int.l0 k u0 m (IntKind.i64.wrap (x2 + 1))))
    else some (Lo.brk ()))
def cmp_Or_int (k : Nat) (u0 : List Int) : Option Int :=
  ((cmp_Or_int.l0 k u0 k 0).bind fun (o : Lo Int Unit) => match o with
  | .ret r => some r
  | .brk _ => some 0)
def cube_Compare (k : Nat) (u0 : TCube) (u1 : TCube) : Option Int :=
  ((head_Compare k u0.Care u1.Care).bind fun x3 =>
  ((head_Compare k u0.Value u1.Value).bind fun x6 =>
  ((cmp_Or_int k ([x3, x6])).bind fun x11 =>
  some x11)))
def rule_compare (k : Nat) (u0 : TRule) (u1 : TRule) : Option Int :=
  (if (u0.Prio != u1.Prio) then (if (decide (u1.Prio < u0.Prio)) then some (-1)
    else some 1)
  else ((cube_Compare k u0.Match u1.Match).bind fun x5 =>
    some x5))
def rule_Before (k : Nat) (u0 : TRule) (u1 : TRule) : Option Bool :=
  ((rule_compare k u0 u1).bind fun x3 =>
  some (decide (x3 < 0)))
def rule_Table.l0 (k : Nat) (u0 : List TRule) : Nat → Int → Option (Lo Bool Unit)
  | 0, _ => none
  | m + 1, x2 =>
    (if (decide (x2 < (u0.length : Int))) then ((idx u0 x2).bind fun x7 =>
      ((rule_Sound k x7).bind fun x17 =>
      ((if (!x17) then some true
      else ((if (decide (0 < x2)) then ((idx u0 (IntKind.i64.wrap (x2 - 1))).bind fun x27 =>
          ((rule_Before k x27 x7).bind fun x36 =>
          some (!x36)))
        else some false).bind fun (x24 : Bool) =>
        some x24)).bind fun (x20 : Bool) =>
      (if x20 then some (Lo.ret false)
      else rule_Table.l0 k u0 m (IntKind.i64.wrap (x2 + 1))))))
    else some (Lo.brk ()))
def rule_Table (k : Nat) (u0 : List TRule) : Option Bool :=
  ((rule_Table.l0 k u0 k 0).bind fun (o : Lo Bool Unit) => match o with
  | .ret r => some r
  | .brk _ => some true)
def mods_span (u0 : Int) (u1 : Int) : Option Bool :=
  some ((decide (0 ≤ u0)) && (decide (u0 ≤ u1)))
def mods_plain (u0 : TMod) : Option Bool :=
  some (((u0.Idle == 0) && (u0.Hard == 0)) && (!u0.Check))
def mods_Sound (k : Nat) (u0 : TMod) : Option Bool :=
  ((cube_Sound k u0.Match).bind fun x2 =>
  ((if (!x2) then some true
  else ((act_Sound k u0.Acts).bind fun x8 =>
    some (!x8))).bind fun (x6 : Bool) =>
  ((if x6 then some true
  else ((mods_span u0.Prio 65535).bind fun x14 =>
    some (!x14))).bind fun (x12 : Bool) =>
  ((if x12 then some true
  else ((mods_span u0.Owner 255).bind fun x20 =>
    some (!x20))).bind fun (x18 : Bool) =>
  (if x18 then some false
  else (if (u0.Kind == 1) then ((mods_span u0.Idle 1048576).bind fun x25 =>
      ((if x25 then ((mods_span u0.Hard 1048576).bind fun x31 =>
        some x31)
      else some false).bind fun (x29 : Bool) =>
      some x29))
    else (if (u0.Kind == 2) then ((mods_plain u0).bind fun x35 =>
        some (x35 && (u0.Prio == 0)))
      else (if (u0.Kind == 3) then ((mods_plain u0).bind fun x40 =>
          some ((x40 && (u0.Prio == 0)) && ((u0.Acts.length : Int) == 0)))
        else (if (u0.Kind == 4) then ((mods_plain u0).bind fun x46 =>
            some x46)
          else (if (u0.Kind == 5) then ((mods_plain u0).bind fun x50 =>
              some (x50 && ((u0.Acts.length : Int) == 0)))
            else some false))))))))))
def mods_Rule (u0 : TMod) : Option TRule :=
  ((slices_Clone_Act u0.Acts).bind fun x3 =>
  ((slices_Clip_Act x3).bind fun x8 =>
  some ({ Match := u0.Match, Prio := u0.Prio, Acts := x8, Idle := u0.Idle, Hard := u0.Hard, Owner := u0.Owner, Hits := 0, Quiet := 0, Age := 0 } : TRule)))
def rule_Key (u0 : TRule) (u1 : TRule) : Option Bool :=
  some ((cellsEq (TCube.enc u0.Match) (TCube.enc u1.Match)) && (u0.Prio == u1.Prio))
def mods_add_1 (u0 : TRule) (y0 : TRule) : Option Bool :=
  ((rule_Key u0 y0).bind fun x2 =>
  some x2)
def slices_IndexFunc_Rule.l0 (k : Nat) (u0 : List TRule) (u1 : TRule → Option Bool) : Nat → Int → Option (Lo Int Unit)
  | 0, _ => none
  | m + 1, x2 =>
    (if (decide (x2 < (u0.length : Int))) then ((idx u0 x2).bind fun x7 =>
      ((u1 x7).bind fun x16 =>
      (if x16 then some (Lo.ret x2)
      else slices_IndexFunc_Rule.l0 k u0 u1 m (IntKind.i64.wrap (x2 + 1)))))
    else some (Lo.brk ()))
def slices_IndexFunc_Rule (k : Nat) (u0 : List TRule) (u1 : TRule → Option Bool) : Option Int :=
  ((slices_IndexFunc_Rule.l0 k u0 u1 k 0).bind fun (o : Lo Int Unit) => match o with
  | .ret r => some r
  | .brk _ => some (-1))
def cube_both (k : Nat) (u0 : TCube) (u1 : TCube) : Option Bool :=
  ((cube_Sound k u0).bind fun x3 =>
  ((if x3 then ((cube_Sound k u1).bind fun x9 =>
    some x9)
  else some false).bind fun (x7 : Bool) =>
  some x7))
def cube_Meet.l0 (k : Nat) (u1 : TCube) : Nat → TCube → Int → Option (Lo (TCube × Bool) TCube)
  | 0, _, _ => none
  | m + 1, x11, x12 =>
    (if (decide (x12 < 12)) then (if 0 ≤ x12 ∧ x12 < 12 then (if ((bAnd .u64 (bAnd .u64 (bXor .u64 (x11.Value.at x12) (u1.Value.at x12)) (x11.Care.at x12)) (u1.Care.at x12)) != 0) then some (Lo.ret (TCube.zero, false))
      else cube_Meet.l0 k u1 m ({ Value := (x11.Value.upd x12 (bOr .u64 (x11.Value.at x12) (u1.Value.at x12))), Care := (x11.Care.upd x12 (bOr .u64 (x11.Care.at x12) (u1.Care.at x12))) } : TCube) (IntKind.i64.wrap (x12 + 1))) else none)
    else some (Lo.brk x11))
def cube_Meet (k : Nat) (u0 : TCube) (u1 : TCube) : Option (TCube × Bool) :=
  ((cube_both k u0 u1).bind fun x4 =>
  (if (!x4) then some (TCube.zero, false)
  else ((cube_Meet.l0 k u1 k u0 0).bind fun (o : Lo (TCube × Bool) TCube) => match o with
    | .ret r => some r
    | .brk x13 => some (x13, true))))
def rule_Overlap (k : Nat) (u0 : TRule) (u1 : TRule) : Option Bool :=
  ((cube_Meet k u0.Match u1.Match).bind fun x3 =>
  some (x3.2 && (u0.Prio == u1.Prio)))
def mods_add_2 (k : Nat) (u0 : TRule) (y0 : TRule) : Option Bool :=
  ((rule_Key u0 y0).bind fun x2 =>
  ((if (!x2) then ((rule_Overlap k u0 y0).bind fun x8 =>
    some x8)
  else some false).bind fun (x6 : Bool) =>
  some x6))
def slices_ContainsFunc_Rule (k : Nat) (u0 : List TRule) (u1 : TRule → Option Bool) : Option Bool :=
  ((slices_IndexFunc_Rule k u0 u1).bind fun x1 =>
  some (decide (0 ≤ x1)))
def rule_copied (u0 : TRule) : Option TRule :=
  ((slices_Clone_Act u0.Acts).bind fun x3 =>
  ((slices_Clip_Act x3).bind fun x8 =>
  some (TRule.setActs u0 x8)))
def slices_Clip_Rule (u0 : List TRule) : Option (List TRule) :=
  some u0
def rule_Copy.l0 (k : Nat) (u0 : List TRule) : Nat → (List TRule) → Int → Option (List TRule)
  | 0, _, _ => none
  | m + 1, x5, x8 =>
    (if (decide (x8 < (u0.length : Int))) then ((idx u0 x8).bind fun x20 =>
      ((rule_copied x20).bind fun x30 =>
      ((app 272 x5 ([x30])).bind fun x39 =>
      rule_Copy.l0 k u0 m x39 (IntKind.i64.wrap (x8 + 1)))))
    else some x5)
def rule_Copy (k : Nat) (u0 : List TRule) : Option (List TRule) :=
  ((rule_Copy.l0 k u0 k ([]) 0).bind fun (x9 : (List TRule)) =>
  ((slices_Clip_Rule x9).bind fun x14 =>
  some x14))
def slices_BinarySearchFunc_Rule.l0 (k : Nat) (u0 : List TRule) (u1 : TRule) (u2 : TRule → TRule → Option Int) : Nat → Int → Int → Option Int
  | 0, _, _ => none
  | m + 1, x4, x5 =>
    (if (decide (x4 < x5)) then (((idx u0 (IntKind.i64.wrap (bShr .u64 (IntKind.u64.wrap (IntKind.i64.wrap (x4 + x5))) 1))).bind fun x30 =>
      ((u2 x30 u1).bind fun x39 =>
      ((if (decide (x39 < 0)) then some ((IntKind.i64.wrap ((IntKind.i64.wrap (bShr .u64 (IntKind.u64.wrap (IntKind.i64.wrap (x4 + x5))) 1)) + 1)), x5)
      else some (x4, (IntKind.i64.wrap (bShr .u64 (IntKind.u64.wrap (IntKind.i64.wrap (x4 + x5))) 1)))).bind fun (o : Int × Int) => match o with
      | (x41, x42) => some (x41, x42)))).bind fun (o : Int × Int) => match o with
      | (x26, x27) => slices_BinarySearchFunc_Rule.l0 k u0 u1 u2 m x26 x27)
    else some x4)
def slices_BinarySearchFunc_Rule (k : Nat) (u0 : List TRule) (u1 : TRule) (u2 : TRule → TRule → Option Int) : Option (Int × Bool) :=
  ((slices_BinarySearchFunc_Rule.l0 k u0 u1 u2 k 0 (u0.length : Int)).bind fun (x6 : Int) =>
  ((if (decide (x6 < (u0.length : Int))) then ((idx u0 x6).bind fun x13 =>
    ((u2 x13 u1).bind fun x22 =>
    some (x22 == 0)))
  else some false).bind fun (x10 : Bool) =>
  some (x6, x10)))
def slices_Insert_Rule (u0 : List TRule) (u1 : Int) (u2 : List TRule) : Option (List TRule) := insO 272 u0 u1 u2
def rule_Sort.l0 (k : Nat) (u0 : List TRule) : Nat → (List TRule) → Int → Option (List TRule)
  | 0, _, _ => none
  | m + 1, x5, x8 =>
    (if (decide (x8 < (u0.length : Int))) then (((idx u0 x8).bind fun x25 =>
      ((rule_Sound k x25).bind fun x35 =>
      (if (!x35) then some x5
      else ((slices_BinarySearchFunc_Rule k x5 x25 (fun (a0 : TRule) (a1 : TRule) => rule_compare k a0 a1)).bind fun x39 =>
        ((if x39.2 then ((rule_copied x25).bind fun x48 =>
          ((idx x5 x39.1).bind fun x53 =>
          some (x5.set x39.1.toNat x48)))
        else ((rule_copied x25).bind fun x64 =>
          ((slices_Insert_Rule x5 x39.1 ([x64])).bind fun x71 =>
          some x71))).bind fun (x42 : (List TRule)) =>
        some x42))))).bind fun (x20 : (List TRule)) =>
      rule_Sort.l0 k u0 m x20 (IntKind.i64.wrap (x8 + 1)))
    else some x5)
def rule_Sort (k : Nat) (u0 : List TRule) : Option (List TRule) :=
  ((rule_Sort.l0 k u0 k ([]) 0).bind fun (x9 : (List TRule)) =>
  ((slices_Clip_Rule x9).bind fun x14 =>
  some x14))
def mods_add (k : Nat) (u0 : List TRule) (u1 : TMod) (u2 : Int) : Option ((List TRule) × Int) :=
  ((mods_Rule u1).bind fun x2 =>
  ((slices_IndexFunc_Rule k u0 (fun (a0 : TRule) => mods_add_1 a0 x2)).bind fun x8 =>
  ((if (decide (0 ≤ x8)) then ((idx u0 x8).bind fun x15 =>
    some (x15.Owner != u1.Owner))
  else some false).bind fun (x12 : Bool) =>
  (if x12 then some ([], 7)
  else ((if u1.Check then ((slices_ContainsFunc_Rule k u0 (fun (a0 : TRule) => mods_add_2 k a0 x2)).bind fun x28 =>
      some x28)
    else some false).bind fun (x26 : Bool) =>
    (if x26 then some ([], 6)
    else (if ((decide (x8 < 0)) && (decide (u2 ≤ (u0.length : Int)))) then some ([], 3)
      else (((rule_Copy k u0).bind fun x40 =>
        ((app 272 x40 ([x2])).bind fun x42 =>
        ((rule_Sort k x42).bind fun x44 =>
        some (x44, 0)))).bind fun (o : (List TRule) × Int) => match o with
        | (x34, x37) => some (x34, x37)))))))))
def cube_Within (k : Nat) (u0 : TCube) (u1 : TCube) : Option Bool :=
  ((cube_Meet k u0 u1).bind fun x3 =>
  some (x3.2 && (cellsEq (TCube.enc x3.1) (TCube.enc u0))))
def mods_touches (k : Nat) (u0 : TMod) (u1 : TRule) : Option Bool :=
  ((if (u0.Kind == 2) then some (u0.Kind == 2)
  else some (u0.Kind == 3)).bind fun (x3 : Bool) =>
  (if x3 then ((if (u1.Owner == u0.Owner) then ((cube_Within k u1.Match u0.Match).bind fun x10 =>
      some x10)
    else some false).bind fun (x8 : Bool) =>
    some x8)
  else ((if (u0.Kind == 4) then some (u0.Kind == 4)
    else some (u0.Kind == 5)).bind fun (x13 : Bool) =>
    (if x13 then ((if (u1.Owner == u0.Owner) then ((mods_Rule u0).bind fun x21 =>
        ((rule_Key u1 x21).bind fun x26 =>
        some x26))
      else some false).bind fun (x17 : Bool) =>
      some x17)
    else some false))))
def mods_Apply.l0 (k : Nat) (u1 : TMod) (x18 : (List TRule)) : Nat → (List TRule) → Int → Option (List TRule)
  | 0, _, _ => none
  | m + 1, x27, x30 =>
    (if (decide (x30 < (x18.length : Int))) then (((idx x18 x30).bind fun x43 =>
      ((mods_touches k u1 x43).bind fun x55 =>
      (if x55 then (if ((u1.Kind == 3) || (u1.Kind == 5)) then some x27
        else ((slices_Clone_Act u1.Acts).bind fun x61 =>
          ((slices_Clip_Act x61).bind fun x66 =>
          ((app 272 x27 ([(TRule.setActs x43 x66)])).bind fun x74 =>
          some x74))))
      else ((app 272 x27 ([x43])).bind fun x80 =>
        some x80)))).bind fun (x38 : (List TRule)) =>
      mods_Apply.l0 k u1 x18 m x38 (IntKind.i64.wrap (x30 + 1)))
    else some x27)
def mods_Apply (k : Nat) (u0 : List TRule) (u1 : TMod) (u2 : Int) : Option ((List TRule) × Int) :=
  ((rule_Table k u0).bind fun x2 =>
  ((if (!x2) then some true
  else ((mods_Sound k u1).bind fun x8 =>
    some (!x8))).bind fun (x6 : Bool) =>
  (if x6 then some ([], 2)
  else (if (u1.Kind == 1) then ((mods_add k u0 u1 u2).bind fun x13 =>
      some (x13.1, x13.2))
    else ((rule_Copy k u0).bind fun x18 =>
      ((mods_Apply.l0 k u1 x18 k ([]) 0).bind fun (x31 : (List TRule)) =>
      some (x31, 0)))))))
def slices_Equal_Act.l0 (k : Nat) (u0 : List TAct) (u1 : List TAct) : Nat → Int → Option (Lo Bool Unit)
  | 0, _ => none
  | m + 1, x3 =>
    (if (decide (x3 < (u0.length : Int))) then ((idx u0 x3).bind fun x8 =>
      ((idx u1 x3).bind fun x14 =>
      (if (!(cellsEq (TAct.enc x8) (TAct.enc x14))) then some (Lo.ret false)
      else slices_Equal_Act.l0 k u0 u1 m (IntKind.i64.wrap (x3 + 1)))))
    else some (Lo.brk ()))
def slices_Equal_Act (k : Nat) (u0 : List TAct) (u1 : List TAct) : Option Bool :=
  (if ((u0.length : Int) != (u1.length : Int)) then some false
  else ((slices_Equal_Act.l0 k u0 u1 k 0).bind fun (o : Lo Bool Unit) => match o with
    | .ret r => some r
    | .brk _ => some true))
def act_Same (k : Nat) (u0 : List TAct) (u1 : List TAct) : Option Bool :=
  ((slices_Equal_Act k u0 u1).bind fun x1 =>
  some x1)
def rule_Equal (k : Nat) (u0 : TRule) (u1 : TRule) : Option Bool :=
  ((act_Same k u0.Acts u1.Acts).bind fun x3 =>
  ((rule_Key (TRule.setActs u0 ([])) (TRule.setActs u1 ([]))).bind fun x5 =>
  some (((((((x3 && x5) && (u0.Idle == u1.Idle)) && (u0.Hard == u1.Hard)) && (u0.Owner == u1.Owner)) && (u0.Hits == u1.Hits)) && (u0.Quiet == u1.Quiet)) && (u0.Age == u1.Age))))
def undo_alone_1 (k : Nat) (u0 : TRule) (y0 : TRule) : Option Bool :=
  ((rule_Equal k y0 u0).bind fun x2 =>
  some x2)
def undo_alone.l0 (k : Nat) (u0 : List TRule) (u1 : List TRule) : Nat → (List TRule) → Int → Option (List TRule)
  | 0, _, _ => none
  | m + 1, x5, x8 =>
    (if (decide (x8 < (u0.length : Int))) then (((idx u0 x8).bind fun x26 =>
      ((slices_ContainsFunc_Rule k u1 (fun (a0 : TRule) => undo_alone_1 k a0 x26)).bind fun x36 =>
      ((if (!x36) then ((app 272 x5 ([x26])).bind fun x49 =>
        some x49)
      else some x5).bind fun (x39 : (List TRule)) =>
      some x39))).bind fun (x21 : (List TRule)) =>
      undo_alone.l0 k u0 u1 m x21 (IntKind.i64.wrap (x8 + 1)))
    else some x5)
def undo_alone (k : Nat) (u0 : List TRule) (u1 : List TRule) : Option (List TRule) :=
  ((undo_alone.l0 k u0 u1 k ([]) 0).bind fun (x9 : (List TRule)) =>
  ((rule_Copy k x9).bind fun x14 =>
  some x14))
def undo_Diff (k : Nat) (u0 : List TRule) (u1 : List TRule) : Option Tundo_Patch :=
  ((rule_Table k u0).bind fun x2 =>
  ((if (!x2) then some true
  else ((rule_Table k u1).bind fun x8 =>
    some (!x8))).bind fun (x6 : Bool) =>
  (if x6 then some Tundo_Patch.zero
  else ((undo_alone k u0 u1).bind fun x12 =>
    ((undo_alone k u1 u0).bind fun x17 =>
    some ({ Gone := x12, New := x17 } : Tundo_Patch))))))
def undo_Inverse (k : Nat) (u0 : List TRule) (u1 : TMod) (u2 : Int) : Option ((List TRule) × Tundo_Patch × Int) :=
  ((mods_Apply k u0 u1 u2).bind fun x3 =>
  (if (x3.2 != 0) then some ([], Tundo_Patch.zero, x3.2)
  else ((undo_Diff k u0 x3.1).bind fun x9 =>
    some (x3.1, x9, 0))))
def shadow_laid.l0 (k : Nat) (u1 : List TMod) : Nat → (List TRule) → (List Tundo_Patch) → Int → Option ((List TRule) × (List Tundo_Patch))
  | 0, _, _, _ => none
  | m + 1, x8, x11, x14 =>
    (if (decide (x14 < (u1.length : Int))) then (((idx u1 x14).bind fun x33 =>
      ((undo_Inverse k x8 x33 1073741824).bind fun x43 =>
      (if (x43.2.2 != 0) then some (x8, x11)
      else ((app 48 x11 ([x43.2.1])).bind fun x58 =>
        some (x43.1, x58))))).bind fun (o : (List TRule) × (List Tundo_Patch)) => match o with
      | (x25, x28) => shadow_laid.l0 k u1 m x25 x28 (IntKind.i64.wrap (x14 + 1)))
    else some (x8, x11))
def shadow_laid (k : Nat) (u0 : List TRule) (u1 : List TMod) : Option ((List TRule) × (List Tundo_Patch)) :=
  ((shadow_laid.l0 k u1 k u0 ([]) 0).bind fun (o : (List TRule) × (List Tundo_Patch)) => match o with
  | (x15, x18) => some (x15, x18))
def shadow_Shadow_Table.l0 (k : Nat) (u0 : Tshadow_Shadow) (u1 : Int) : Nat → (List TRule) → Int → Option (List TRule)
  | 0, _, _ => none
  | m + 1, x19, x22 =>
    (if (decide (x22 < (u0.open_.length : Int))) then ((idx u0.open_ x22).bind fun x35 =>
      ((region_For k x35.list u1).bind fun x47 =>
      ((shadow_laid k x19 x47).bind fun x52 =>
      shadow_Shadow_Table.l0 k u0 u1 m x52.1 (IntKind.i64.wrap (x22 + 1)))))
    else some x19)
def shadow_Shadow_Table (k : Nat) (u0 : Tshadow_Shadow) (u1 : Int) : Option (List TRule) :=
  (if ((false || (decide (u1 < 0))) || (decide ((u0.base.length : Int) ≤ u1))) then some ([])
  else ((idx u0.base u1).bind fun x4 =>
    ((shadow_Shadow_Table.l0 k u0 u1 k x4 0).bind fun (x23 : (List TRule)) =>
    ((rule_Copy k x23).bind fun x28 =>
    some x28))))
def slices_Delete_open (u0 : List Tshadow_open) (u1 u2 : Int) : Option (List Tshadow_open) := delO u0 u1 u2
def shadow_Shadow_end (k : Nat) (u0 : Tshadow_Shadow) (u1 : Int) : Option (Tshadow_Shadow × Tshadow_open × Int) :=
  (if false then some (u0, Tshadow_open.zero, 1)
  else ((shadow_Shadow_find k u0 u1).bind fun x3 =>
    (if (decide (x3 < 0)) then some (u0, Tshadow_open.zero, 4)
    else ((idx u0.open_ x3).bind fun x6 =>
      ((slices_Delete_open u0.open_ x3 (IntKind.i64.wrap (x3 + 1))).bind fun x18 =>
      some ((Tshadow_Shadow.setopen u0 x18), x6, 0))))))
def shadow_Shadow_Abort (k : Nat) (u0 : Tshadow_Shadow) (u1 : Int) : Option (Tshadow_Shadow × Int) :=
  ((shadow_Shadow_end k u0 u1).bind fun x1 =>
  some (x1.1, x1.2.2))
def law22_answers (k : Nat)  : Option Bool :=
  ((shadow_New 1).bind fun x1 =>
  ((shadow_Shadow_Begin k x1 1 ([({ Unit := 0, Mod := ({ Kind := 1, Match := TCube.zero, Prio := 3, Acts := [], Idle := 0, Hard := 0, Owner := 0, Check := false } : TMod) } : TChange)])).bind fun x11 =>
  ((shadow_Shadow_Begin k x11.1 1 ([({ Unit := 0, Mod := ({ Kind := 1, Match := TCube.zero, Prio := 3, Acts := [], Idle := 0, Hard := 0, Owner := 0, Check := false } : TMod) } : TChange)])).bind fun x17 =>
  ((if ((x11.2 == 0) && (x17.2 == 5)) then ((shadow_Shadow_Table k x17.1 0).bind fun x27 =>
    some ((x27.length : Int) == 1))
  else some false).bind fun (x25 : Bool) =>
  ((if x25 then ((shadow_Shadow_Abort k x17.1 1).bind fun x40 =>
    some (x40.1, (x40.2 == 0)))
  else some (x17.1, false)).bind fun (o : Tshadow_Shadow × Bool) => match o with
  | (x32, x37) => ((if x37 then ((shadow_Shadow_Table k x32 0).bind fun x49 =>
      some ((x49.length : Int) == 0))
    else some false).bind fun (x47 : Bool) =>
    some x47))))))
def ref19_For.l0 (k : Nat) (u0 : List TChange) (u1 : Int) : Nat → (List TMod) → Int → Option (List TMod)
  | 0, _, _ => none
  | m + 1, x5, x8 =>
    (if (decide (x8 < (u0.length : Int))) then (((idx u0 x8).bind fun x21 =>
      ((if (x21.Unit == u1) then ((app 264 x5 ([x21.Mod])).bind fun x47 =>
        some x47)
      else some x5).bind fun (x30 : (List TMod)) =>
      some x30)).bind fun (x16 : (List TMod)) =>
      ref19_For.l0 k u0 u1 m x16 (IntKind.i64.wrap (x8 + 1)))
    else some x5)
def ref19_For (k : Nat) (u0 : List TChange) (u1 : Int) : Option (List TMod) :=
  ((ref19_For.l0 k u0 u1 k ([]) 0).bind fun (x9 : (List TMod)) =>
  some x9)
def ref01_Size (u0 : Int) : Option Int :=
  (if ((decide (u0 < 0)) || (decide (11 < u0))) then some 0
  else ((idx ([16, 48, 48, 16, 12, 4, 32, 32, 8, 8, 12, 12]) u0).bind fun x5 =>
    some x5))
def ref01_Fits (u0 : Int) (u1 : Int) : Option Bool :=
  (if 0 ≤ (IntKind.u64.wrap u1) then some (decide (u0 < (bShl .u64 1 (IntKind.u64.wrap u1)))) else none)
def ref01_Head.l0 (k : Nat) (u0 : Arr 12) : Nat → Int → Option (Lo Bool Unit)
  | 0, _ => none
  | m + 1, x3 =>
    (if (decide (x3 < 12)) then (if 0 ≤ x3 ∧ x3 < 12 then ((ref01_Size x3).bind fun x9 =>
      ((ref01_Fits (u0.at x3) x9).bind fun x11 =>
      (if (!x11) then some (Lo.ret false)
      else ref01_Head.l0 k u0 m (IntKind.i64.wrap (x3 + 1))))) else none)
    else some (Lo.brk ()))
def ref01_Head (k : Nat) (u0 : Arr 12) : Option Bool :=
  ((ref01_Head.l0 k u0 k 0).bind fun (o : Lo Bool Unit) => match o with
  | .ret r => some r
  | .brk _ => some true)
def ref01_Bits.l0 (k : Nat) (u0 : Int) : Nat → (List Bool) → Int → Option (List Bool)
  | 0, _, _ => none
  | m + 1, x5, x8 =>
    (if (decide (0 ≤ x8)) then (if 0 ≤ (IntKind.u64.wrap x8) then ((app 1 x5 ([((bAnd .u64 (bShr .u64 u0 (IntKind.u64.wrap x8)) 1) == 1)])).bind fun x21 =>
      ref01_Bits.l0 k u0 m x21 (IntKind.i64.wrap (x8 - 1))) else none)
    else some x5)
def ref01_Bits (k : Nat) (u0 : Int) (u1 : Int) : Option (List Bool) :=
  ((ref01_Bits.l0 k u0 k ([]) (IntKind.i64.wrap (u1 - 1))).bind fun (x9 : (List Bool)) =>
  some x9)
def ref01_Text.l1 (k : Nat) (x30 : (List Bool)) (x36 : (List Bool)) : Nat → (List Int) → Int → Option (List Int)
  | 0, _, _ => none
  | m + 1, x45, x48 =>
    (if (decide (x48 < (x30.length : Int))) then ((((idx x36 x48).bind fun x66 =>
      ((if (!x66) then ((app 1 x45 ([120])).bind fun x84 =>
        some x84)
      else ((idx x30 x48).bind fun x86 =>
        ((if x86 then ((app 1 x45 ([49])).bind fun x104 =>
          some x104)
        else ((app 1 x45 ([48])).bind fun x110 =>
          some x110)).bind fun (x94 : (List Int)) =>
        some x94))).bind fun (x74 : (List Int)) =>
      some x74)).bind fun (x61 : (List Int)) =>
      some x61).bind fun (x56 : (List Int)) =>
      ref01_Text.l1 k x30 x36 m x56 (IntKind.i64.wrap (x48 + 1)))
    else some x45)
def ref01_Text.l0 (k : Nat) (u0 : TCube) : Nat → (List Int) → Bool → Int → Option ((List Int) × Bool)
  | 0, _, _, _ => none
  | m + 1, x10, x13, x14 =>
    (if (decide (x14 < 12)) then (if 0 ≤ x14 ∧ x14 < 12 then ((if ((bAndNot .u64 (u0.Value.at x14) (u0.Care.at x14)) != 0) then some false
      else some x13).bind fun (x24 : Bool) =>
      ((ref01_Size x14).bind fun x27 =>
      ((ref01_Bits k (u0.Value.at x14) x27).bind fun x30 =>
      ((ref01_Bits k (u0.Care.at x14) x27).bind fun x36 =>
      ((ref01_Text.l1 k x30 x36 k x10 0).bind fun (x49 : (List Int)) =>
      ref01_Text.l0 k u0 m x49 x24 (IntKind.i64.wrap (x14 + 1))))))) else none)
    else some (x10, x13))
def ref01_Text (k : Nat) (u0 : TCube) : Option (ByteArray × Bool) :=
  ((ref01_Head k u0.Care).bind fun x2 =>
  ((ref01_Text.l0 k u0 k ([]) x2 0).bind fun (o : (List Int) × Bool) => match o with
  | (x15, x18) => some ((strOfNums x15), x18)))
def ref01_Cube (k : Nat) (u0 : TCube) : Option Bool :=
  ((ref01_Text k u0).bind fun x2 =>
  some x2.2)
def ref04_Acts.l0 (k : Nat) (u0 : List TAct) : Nat → Int → Option (Lo Bool Unit)
  | 0, _ => none
  | m + 1, x2 =>
    (if (decide (x2 < (u0.length : Int))) then ((idx u0 x2).bind fun x7 =>
      (((if (x7.Kind == 1) then some ((((decide (1 ≤ x7.Port)) && (decide (x7.Port ≤ 16))) && (x7.Field == 0)) && (x7.Value == 0))
      else ((if (x7.Kind == 2) then ((if (((x7.Port == 0) && (decide (0 ≤ x7.Field))) && (decide (x7.Field < 12))) then ((ref01_Size x7.Field).bind fun x35 =>
            ((ref01_Fits x7.Value x35).bind fun x37 =>
            some x37))
          else some false).bind fun (x32 : Bool) =>
          some x32)
        else ((if (x7.Kind == 3) then some (((x7.Port == 0) && (x7.Field == 0)) && (x7.Value == 0))
          else some false).bind fun (x39 : Bool) =>
          some x39)).bind fun (x25 : Bool) =>
        some x25)).bind fun (x18 : Bool) =>
      some x18).bind fun (x14 : Bool) =>
      (if (!x14) then some (Lo.ret false)
      else ref04_Acts.l0 k u0 m (IntKind.i64.wrap (x2 + 1)))))
    else some (Lo.brk ()))
def ref04_Acts (k : Nat) (u0 : List TAct) : Option Bool :=
  ((ref04_Acts.l0 k u0 k 0).bind fun (o : Lo Bool Unit) => match o with
  | .ret r => some r
  | .brk _ => some (decide ((u0.length : Int) ≤ 8)))
def ref04_span (u0 : Int) (u1 : Int) : Option Bool :=
  some ((decide (0 ≤ u0)) && (decide (u0 ≤ u1)))
def ref04_Rule (k : Nat) (u0 : TRule) : Option Bool :=
  ((ref01_Cube k u0.Match).bind fun x2 =>
  ((if x2 then ((ref04_Acts k u0.Acts).bind fun x8 =>
    some x8)
  else some false).bind fun (x6 : Bool) =>
  ((if x6 then ((ref04_span u0.Prio 65535).bind fun x14 =>
    some x14)
  else some false).bind fun (x12 : Bool) =>
  ((if x12 then ((ref04_span u0.Idle 1048576).bind fun x20 =>
    some x20)
  else some false).bind fun (x18 : Bool) =>
  ((if x18 then ((ref04_span u0.Hard 1048576).bind fun x26 =>
    some x26)
  else some false).bind fun (x24 : Bool) =>
  ((if x24 then ((ref04_span u0.Owner 255).bind fun x32 =>
    some x32)
  else some false).bind fun (x30 : Bool) =>
  some (((x30 && (decide (0 ≤ u0.Hits))) && (decide (0 ≤ u0.Quiet))) && (decide (0 ≤ u0.Age)))))))))
def ref01_Order.l0 (k : Nat) (u0 : Arr 12) (u1 : Arr 12) : Nat → Int → Option (Lo Int Unit)
  | 0, _ => none
  | m + 1, x4 =>
    (if (decide (x4 < 12)) then (if 0 ≤ x4 ∧ x4 < 12 then (if (decide ((u0.at x4) < (u1.at x4))) then some (Lo.ret (-1))
      else (if (decide ((u1.at x4) < (u0.at x4))) then some (Lo.ret 1)
        else ref01_Order.l0 k u0 u1 m (IntKind.i64.wrap (x4 + 1)))) else none)
    else some (Lo.brk ()))
def ref01_Order (k : Nat) (u0 : Arr 12) (u1 : Arr 12) : Option Int :=
  ((ref01_Order.l0 k u0 u1 k 0).bind fun (o : Lo Int Unit) => match o with
  | .ret r => some r
  | .brk _ => some 0)
def ref01_Compare (k : Nat) (u0 : TCube) (u1 : TCube) : Option Int :=
  ((ref01_Order k u0.Care u1.Care).bind fun x3 =>
  (if (x3 != 0) then some x3
  else ((ref01_Order k u0.Value u1.Value).bind fun x7 =>
    some x7)))
def ref04_Before (k : Nat) (u0 : TRule) (u1 : TRule) : Option Bool :=
  (if (u0.Prio != u1.Prio) then some (decide (u1.Prio < u0.Prio))
  else ((ref01_Compare k u0.Match u1.Match).bind fun x4 =>
    some (decide (x4 < 0))))
def ref04_Table.l0 (k : Nat) (u0 : List TRule) : Nat → Int → Option (Lo Bool Unit)
  | 0, _ => none
  | m + 1, x2 =>
    (if (decide (x2 < (u0.length : Int))) then ((idx u0 x2).bind fun x7 =>
      ((ref04_Rule k x7).bind fun x16 =>
      ((if (!x16) then some true
      else ((if (decide (0 < x2)) then ((idx u0 (IntKind.i64.wrap (x2 - 1))).bind fun x26 =>
          ((ref04_Before k x26 x7).bind fun x42 =>
          some (!x42)))
        else some false).bind fun (x23 : Bool) =>
        some x23)).bind fun (x19 : Bool) =>
      (if x19 then some (Lo.ret false)
      else ref04_Table.l0 k u0 m (IntKind.i64.wrap (x2 + 1))))))
    else some (Lo.brk ()))
def ref04_Table (k : Nat) (u0 : List TRule) : Option Bool :=
  ((ref04_Table.l0 k u0 k 0).bind fun (o : Lo Bool Unit) => match o with
  | .ret r => some r
  | .brk _ => some true)
def ref04_Mod (k : Nat) (u0 : TMod) : Option Bool :=
  ((if ((decide (u0.Kind < 1)) || (decide (5 < u0.Kind))) then some true
  else ((ref01_Cube k u0.Match).bind fun x6 =>
    some (!x6))).bind fun (x4 : Bool) =>
  ((if x4 then some true
  else ((ref04_Acts k u0.Acts).bind fun x12 =>
    some (!x12))).bind fun (x10 : Bool) =>
  ((if x10 then some true
  else ((ref04_span u0.Prio 65535).bind fun x18 =>
    some (!x18))).bind fun (x16 : Bool) =>
  ((if x16 then some true
  else ((ref04_span u0.Owner 255).bind fun x24 =>
    some (!x24))).bind fun (x22 : Bool) =>
  ((if x22 then some true
  else ((ref04_span u0.Idle 1048576).bind fun x30 =>
    some (!x30))).bind fun (x28 : Bool) =>
  ((if x28 then some true
  else ((ref04_span u0.Hard 1048576).bind fun x36 =>
    some (!x36))).bind fun (x34 : Bool) =>
  (if x34 then some false
  else (if ((u0.Kind != 1) && (((u0.Idle != 0) || (u0.Hard != 0)) || u0.Check)) then some false
    else (if (((u0.Kind == 2) || (u0.Kind == 3)) && (u0.Prio != 0)) then some false
      else some (((u0.Kind != 3) && (u0.Kind != 5)) || ((u0.Acts.length : Int) == 0)))))))))))
def ref04_Key (u0 : TRule) (u1 : TRule) : Option Bool :=
  some ((cellsEq (TCube.enc u0.Match) (TCube.enc u1.Match)) && (u0.Prio == u1.Prio))
def ref01_From.l1 (k : Nat) (u0 : ByteArray) (x10 : Int) : Nat → TCube → Int → Int → Option (TCube × Int)
  | 0, _, _, _ => none
  | m + 1, x21, x22, x23 =>
    ((ref01_Size x10).bind fun x29 =>
    (if (decide (x23 < x29)) then (if 0 ≤ x10 ∧ x10 < 12 then (if 0 ≤ x22 ∧ x22 < u0.size then ((if ((byteAt u0 x22) != 120) then some ({ Value := (x21.Value.upd x10 (IntKind.u64.wrap ((x21.Value.at x10) * 2))), Care := ((x21.Care.upd x10 (IntKind.u64.wrap ((x21.Care.at x10) * 2))).upd x10 (IntKind.u64.wrap (((x21.Care.upd x10 (IntKind.u64.wrap ((x21.Care.at x10) * 2))).at x10) + 1))) } : TCube)
      else some ({ Value := (x21.Value.upd x10 (IntKind.u64.wrap ((x21.Value.at x10) * 2))), Care := (x21.Care.upd x10 (IntKind.u64.wrap ((x21.Care.at x10) * 2))) } : TCube)).bind fun (x35 : TCube) =>
      ((if ((byteAt u0 x22) == 49) then some (TCube.setValue x35 (x35.Value.upd x10 (IntKind.u64.wrap ((x35.Value.at x10) + 1))))
      else some x35).bind fun (x38 : TCube) =>
      ref01_From.l1 k u0 x10 m x38 (IntKind.i64.wrap (x22 + 1)) (IntKind.i64.wrap (x23 + 1)))) else none) else none)
    else some (x21, x22)))
def ref01_From.l0 (k : Nat) (u0 : ByteArray) : Nat → TCube → Int → Int → Option TCube
  | 0, _, _, _ => none
  | m + 1, x8, x9, x10 =>
    (if (decide (x10 < 12)) then ((ref01_From.l1 k u0 x10 k x8 x9 0).bind fun (o : TCube × Int) => match o with
      | (x24, x25) => ref01_From.l0 k u0 m x24 x25 (IntKind.i64.wrap (x10 + 1)))
    else some x8)
def ref01_From (k : Nat) (u0 : ByteArray) : Option TCube :=
  ((ref01_From.l0 k u0 k TCube.zero 0 0).bind fun (x11 : TCube) =>
  some x11)
def ref01_Meet.l0 (k : Nat) (x4 : ByteArray × Bool) (x7 : ByteArray × Bool) : Nat → (List Int) → Int → Option (Lo (TCube × Bool) (List Int))
  | 0, _, _ => none
  | m + 1, x19, x20 =>
    (if (decide (x20 < (x4.1.size : Int))) then ((if 0 ≤ x20 ∧ x20 < x4.1.size then ((if ((byteAt x4.1 x20) == 120) then (if 0 ≤ x20 ∧ x20 < x7.1.size then ((idx x19 x20).bind fun x38 =>
        some (Lo.brk (x19.set x20.toNat (byteAt x7.1 x20)))) else none)
      else (if 0 ≤ x20 ∧ x20 < x7.1.size then (if (((byteAt x7.1 x20) != 120) && ((byteAt x4.1 x20) != (byteAt x7.1 x20))) then some (Lo.ret (TCube.zero, false))
        else some (Lo.brk x19)) else none)).bind fun (o : Lo (TCube × Bool) (List Int)) => match o with
      | .ret r => some (Lo.ret r)
      | .brk x33 => some (Lo.brk x33)) else none).bind fun (o : Lo (TCube × Bool) (List Int)) => match o with
      | .ret r => some (Lo.ret r)
      | .brk x29 => ref01_Meet.l0 k x4 x7 m x29 (IntKind.i64.wrap (x20 + 1)))
    else some (Lo.brk x19))
def ref01_Meet (k : Nat) (u0 : TCube) (u1 : TCube) : Option (TCube × Bool) :=
  ((ref01_Text k u0).bind fun x4 =>
  ((ref01_Text k u1).bind fun x7 =>
  (if ((!x4.2) || (!x7.2)) then some (TCube.zero, false)
  else ((toBytes x4.1).bind fun x14 =>
    ((ref01_Meet.l0 k x4 x7 k x14 0).bind fun (o : Lo (TCube × Bool) (List Int)) => match o with
    | .ret r => some r
    | .brk x21 => ((ref01_From k (strOfNums x21)).bind fun x24 =>
      some (x24, true)))))))
def ref04_Overlap (k : Nat) (u0 : TRule) (u1 : TRule) : Option Bool :=
  ((ref01_Meet k u0.Match u1.Match).bind fun x3 =>
  some ((u0.Prio == u1.Prio) && x3.2))
def ref04_Sort.l1 (k : Nat) (x5 : List TRule) (x21 : TRule) : Nat → Int → Option Int
  | 0, _ => none
  | m + 1, x35 =>
    ((if (decide (x35 < (x5.length : Int))) then ((idx x5 x35).bind fun x138 =>
      ((ref04_Before k x138 x21).bind fun x156 =>
      some x156))
    else some false).bind fun (x135 : Bool) =>
    (if x135 then ref04_Sort.l1 k x5 x21 m (IntKind.i64.wrap (x35 + 1))
    else some x35))
def ref04_Sort.l0 (k : Nat) (u0 : List TRule) : Nat → (List TRule) → Int → Option (List TRule)
  | 0, _, _ => none
  | m + 1, x5, x8 =>
    (if (decide (x8 < (u0.length : Int))) then (((idx u0 x8).bind fun x21 =>
      ((ref04_Rule k x21).bind fun x30 =>
      (if (!x30) then some x5
      else ((ref04_Sort.l1 k x5 x21 k 0).bind fun (x36 : Int) =>
        (if 0 ≤ x36 ∧ x36 ≤ (x5.length : Int) ∧ (x5.length : Int) ≤ x5.length then ((app 272 ([] : List TRule) ((x5.take x5.length).drop x36.toNat)).bind fun x47 =>
        ((if (decide (0 < (x47.length : Int))) then ((idx x47 0).bind fun x53 =>
          ((ref04_Key x53 x21).bind fun x71 =>
          some x71))
        else some false).bind fun (x50 : Bool) =>
        ((if x50 then (if 0 ≤ 1 ∧ 1 ≤ (x47.length : Int) ∧ (x47.length : Int) ≤ x47.length then some ((x47.take x47.length).drop (1 : Int).toNat) else none)
        else some x47).bind fun (x73 : (List TRule)) =>
        ((if 0 ≤ 0 ∧ 0 ≤ x36 ∧ x36 ≤ x5.length then ((app 272 ([] : List TRule) ((x5.take x36.toNat).drop 0)).bind fun x91 =>
        ((app 272 x91 ([x21])).bind fun x93 =>
        ((app 272 x93 x73).bind fun x95 =>
        some x95))) else none).bind fun (x78 : (List TRule)) =>
        some x78)))) else none))))).bind fun (x16 : (List TRule)) =>
      ref04_Sort.l0 k u0 m x16 (IntKind.i64.wrap (x8 + 1)))
    else some x5)
def ref04_Sort (k : Nat) (u0 : List TRule) : Option (List TRule) :=
  ((ref04_Sort.l0 k u0 k ([]) 0).bind fun (x9 : (List TRule)) =>
  some x9)
def ref01_Plain.l0 (k : Nat) (u0 : TCube) : Nat → Int → Option (Lo Bool Unit)
  | 0, _ => none
  | m + 1, x3 =>
    (if (decide (x3 < 12)) then (if 0 ≤ x3 ∧ x3 < 12 then (if ((bAndNot .u64 (u0.Value.at x3) (u0.Care.at x3)) != 0) then some (Lo.ret false)
      else ref01_Plain.l0 k u0 m (IntKind.i64.wrap (x3 + 1))) else none)
    else some (Lo.brk ()))
def ref01_Plain (k : Nat) (u0 : TCube) : Option Bool :=
  ((ref01_Plain.l0 k u0 k 0).bind fun (o : Lo Bool Unit) => match o with
  | .ret r => some r
  | .brk _ => ((ref01_Head k u0.Care).bind fun x6 =>
    some x6))
def ref01_Within.l0 (k : Nat) (u0 : TCube) (u1 : TCube) : Nat → Int → Option (Lo Bool Unit)
  | 0, _ => none
  | m + 1, x4 =>
    (if (decide (x4 < 12)) then (if 0 ≤ x4 ∧ x4 < 12 then (if (((bAndNot .u64 (u1.Care.at x4) (u0.Care.at x4)) != 0) || ((bAnd .u64 (bXor .u64 (u0.Value.at x4) (u1.Value.at x4)) (u1.Care.at x4)) != 0)) then some (Lo.ret false)
      else ref01_Within.l0 k u0 u1 m (IntKind.i64.wrap (x4 + 1))) else none)
    else some (Lo.brk ()))
def ref01_Within (k : Nat) (u0 : TCube) (u1 : TCube) : Option Bool :=
  ((ref01_Within.l0 k u0 u1 k 0).bind fun (o : Lo Bool Unit) => match o with
  | .ret r => some r
  | .brk _ => ((ref01_Plain k u0).bind fun x7 =>
    ((if x7 then ((ref01_Plain k u1).bind fun x13 =>
      some x13)
    else some false).bind fun (x11 : Bool) =>
    some x11)))
def ref04_Touched.l0 (k : Nat) (u0 : List TRule) (u1 : TMod) : Nat → (List Int) → Int → Option (List Int)
  | 0, _, _ => none
  | m + 1, x6, x9 =>
    (if (decide (x9 < (u0.length : Int))) then (((idx u0 x9).bind fun x22 =>
      (((if (u1.Kind == 2) then some (u1.Kind == 2)
      else some (u1.Kind == 3)).bind fun (x53 : Bool) =>
      ((if x53 then ((if (x22.Owner == u1.Owner) then ((ref01_Within k x22.Match u1.Match).bind fun x63 =>
          some x63)
        else some false).bind fun (x61 : Bool) =>
        some x61)
      else ((if (u1.Kind == 4) then some (u1.Kind == 4)
        else some (u1.Kind == 5)).bind fun (x66 : Bool) =>
        ((if x66 then some (((x22.Owner == u1.Owner) && (cellsEq (TCube.enc x22.Match) (TCube.enc u1.Match))) && (x22.Prio == u1.Prio))
        else some false).bind fun (x69 : Bool) =>
        some x69))).bind fun (x56 : Bool) =>
      some x56)).bind fun (x32 : Bool) =>
      ((if x32 then ((ref04_Mod k u1).bind fun x38 =>
        some x38)
      else some false).bind fun (x36 : Bool) =>
      ((if x36 then ((app 8 x6 ([x9])).bind fun x51 =>
        some x51)
      else some x6).bind fun (x41 : (List Int)) =>
      some x41)))).bind fun (x17 : (List Int)) =>
      ref04_Touched.l0 k u0 u1 m x17 (IntKind.i64.wrap (x9 + 1)))
    else some x6)
def ref04_Touched (k : Nat) (u0 : List TRule) (u1 : TMod) : Option (List Int) :=
  ((ref04_Touched.l0 k u0 u1 k ([]) 0).bind fun (x10 : (List Int)) =>
  some x10)
def ref04_Apply.l0 (k : Nat) (u0 : List TRule) (u1 : TMod) : Nat → Bool → Bool → Int → Option (Lo ((List TRule) × Int) (Bool × Bool))
  | 0, _, _, _ => none
  | m + 1, x17, x18, x19 =>
    (if (decide (x19 < (u0.length : Int))) then (((idx u0 x19).bind fun x77 =>
      ((ref04_Key x77 ({ Match := u1.Match, Prio := u1.Prio, Acts := u1.Acts, Idle := u1.Idle, Hard := u1.Hard, Owner := u1.Owner, Hits := 0, Quiet := 0, Age := 0 } : TRule)).bind fun x86 =>
      ((if x86 then (if (x77.Owner != u1.Owner) then some (Lo.ret ([], 7))
        else some (Lo.brk (true, x18)))
      else ((if x18 then some true
        else ((ref04_Overlap k x77 ({ Match := u1.Match, Prio := u1.Prio, Acts := u1.Acts, Idle := u1.Idle, Hard := u1.Hard, Owner := u1.Owner, Hits := 0, Quiet := 0, Age := 0 } : TRule)).bind fun x112 =>
          some x112)).bind fun (x102 : Bool) =>
        some (Lo.brk (x17, x102)))).bind fun (o : Lo ((List TRule) × Int) (Bool × Bool)) => match o with
      | .ret r => some (Lo.ret r)
      | .brk (x88, x89) => some (Lo.brk (x88, x89))))).bind fun (o : Lo ((List TRule) × Int) (Bool × Bool)) => match o with
      | .ret r => some (Lo.ret r)
      | .brk (x73, x74) => ref04_Apply.l0 k u0 u1 m x73 x74 (IntKind.i64.wrap (x19 + 1)))
    else some (Lo.brk (x17, x18)))
def ref04_Apply.l1 (k : Nat) (u0 : List TRule) (u1 : TMod) : Nat → (List TRule) → (List Int) → Int → Option (List TRule)
  | 0, _, _, _ => none
  | m + 1, x133, x136, x139 =>
    (if (decide (x139 < (u0.length : Int))) then (((idx u0 x139).bind fun x155 =>
      ((if (decide (0 < (x136.length : Int))) then ((idx x136 0).bind fun x168 =>
        some (x168 == x139))
      else some false).bind fun (x166 : Bool) =>
      (if x166 then (if 0 ≤ 1 ∧ 1 ≤ (x136.length : Int) ∧ (x136.length : Int) ≤ x136.length then (if ((u1.Kind == 3) || (u1.Kind == 5)) then some (x133, ((x136.take x136.length).drop (1 : Int).toNat))
        else ((app 272 x133 ([(TRule.setActs x155 u1.Acts)])).bind fun x185 =>
          some (x185, ((x136.take x136.length).drop (1 : Int).toNat)))) else none)
      else ((app 272 x133 ([x155])).bind fun x191 =>
        some (x191, x136))))).bind fun (o : (List TRule) × (List Int)) => match o with
      | (x147, x150) => ref04_Apply.l1 k u0 u1 m x147 x150 (IntKind.i64.wrap (x139 + 1)))
    else some x133)
def ref04_Apply (k : Nat) (u0 : List TRule) (u1 : TMod) (u2 : Int) : Option ((List TRule) × Int) :=
  ((ref04_Table k u0).bind fun x2 =>
  ((if (!x2) then some true
  else ((ref04_Mod k u1).bind fun x8 =>
    some (!x8))).bind fun (x6 : Bool) =>
  (if x6 then some ([], 2)
  else (if (u1.Kind == 1) then ((ref04_Apply.l0 k u0 u1 k false false 0).bind fun (o : Lo ((List TRule) × Int) (Bool × Bool)) => match o with
      | .ret r => some r
      | .brk (x20, x21) => (if (u1.Check && x21) then some ([], 6)
        else (if ((!x20) && (decide (u2 ≤ (u0.length : Int)))) then some ([], 3)
          else (((app 272 ([] : List TRule) u0).bind fun x34 =>
            ((app 272 x34 ([({ Match := u1.Match, Prio := u1.Prio, Acts := u1.Acts, Idle := u1.Idle, Hard := u1.Hard, Owner := u1.Owner, Hits := 0, Quiet := 0, Age := 0 } : TRule)])).bind fun x36 =>
            ((ref04_Sort k x36).bind fun x38 =>
            some (x38, 0)))).bind fun (o : (List TRule) × Int) => match o with
            | (x28, x31) => some (x28, x31)))))
    else ((ref04_Touched k u0 u1).bind fun x114 =>
      ((ref04_Apply.l1 k u0 u1 k ([]) x114 0).bind fun (x140 : (List TRule)) =>
      some (x140, 0)))))))
def ref04_Laid.l0 (k : Nat) (u1 : List TMod) : Nat → (List TRule) → Int → Option (List TRule)
  | 0, _, _ => none
  | m + 1, x5, x8 =>
    (if (decide (x8 < (u1.length : Int))) then (((idx u1 x8).bind fun x21 =>
      ((ref04_Apply k x5 x21 1073741824).bind fun x30 =>
      ((if (x30.2 == 0) then some x30.1
      else some x5).bind fun (x35 : (List TRule)) =>
      some x35))).bind fun (x16 : (List TRule)) =>
      ref04_Laid.l0 k u1 m x16 (IntKind.i64.wrap (x8 + 1)))
    else some x5)
def ref04_Laid (k : Nat) (u0 : List TRule) (u1 : List TMod) : Option (List TRule) :=
  ((ref04_Laid.l0 k u1 k u0 0).bind fun (x9 : (List TRule)) =>
  some x9)
def ref04_SameActs.l0 (k : Nat) (u0 : List TAct) (u1 : List TAct) : Nat → Int → Option (Lo Bool Unit)
  | 0, _ => none
  | m + 1, x3 =>
    (if (decide (x3 < (u0.length : Int))) then ((idx u0 x3).bind fun x8 =>
      ((idx u1 x3).bind fun x14 =>
      (if (!(cellsEq (TAct.enc x8) (TAct.enc x14))) then some (Lo.ret false)
      else ref04_SameActs.l0 k u0 u1 m (IntKind.i64.wrap (x3 + 1)))))
    else some (Lo.brk ()))
def ref04_SameActs (k : Nat) (u0 : List TAct) (u1 : List TAct) : Option Bool :=
  (if ((u0.length : Int) != (u1.length : Int)) then some false
  else ((ref04_SameActs.l0 k u0 u1 k 0).bind fun (o : Lo Bool Unit) => match o with
    | .ret r => some r
    | .brk _ => some true))
def ref04_Equal (k : Nat) (u0 : TRule) (u1 : TRule) : Option Bool :=
  ((ref04_Key u0 u1).bind fun x3 =>
  ((if x3 then ((ref04_SameActs k u0.Acts u1.Acts).bind fun x9 =>
    some x9)
  else some false).bind fun (x7 : Bool) =>
  some ((((((x7 && (u0.Idle == u1.Idle)) && (u0.Hard == u1.Hard)) && (u0.Owner == u1.Owner)) && (u0.Hits == u1.Hits)) && (u0.Quiet == u1.Quiet)) && (u0.Age == u1.Age))))
def ref04_Same.l0 (k : Nat) (u0 : List TRule) (u1 : List TRule) : Nat → Int → Option (Lo Bool Unit)
  | 0, _ => none
  | m + 1, x3 =>
    (if (decide (x3 < (u0.length : Int))) then ((idx u0 x3).bind fun x8 =>
      ((idx u1 x3).bind fun x17 =>
      ((ref04_Equal k x8 x17).bind fun x26 =>
      (if (!x26) then some (Lo.ret false)
      else ref04_Same.l0 k u0 u1 m (IntKind.i64.wrap (x3 + 1))))))
    else some (Lo.brk ()))
def ref04_Same (k : Nat) (u0 : List TRule) (u1 : List TRule) : Option Bool :=
  (if ((u0.length : Int) != (u1.length : Int)) then some false
  else ((ref04_Same.l0 k u0 u1 k 0).bind fun (o : Lo Bool Unit) => match o with
    | .ret r => some r
    | .brk _ => some true))
def shadow_Shadow_Commit.l0 (k : Nat) (x1 : Tshadow_Shadow × Tshadow_open × Int) : Nat → Tshadow_Shadow → Int → Option Tshadow_Shadow
  | 0, _, _ => none
  | m + 1, x18, x23 =>
    (if (decide (x23 < (x1.1.base.length : Int))) then ((idx x18.base x23).bind fun x33 =>
      ((region_For k x1.2.1.list x23).bind fun x44 =>
      ((shadow_laid k x33 x44).bind fun x49 =>
      shadow_Shadow_Commit.l0 k x1 m (Tshadow_Shadow.setbase x18 (x18.base.set x23.toNat x49.1)) (IntKind.i64.wrap (x23 + 1)))))
    else some x18)
def shadow_Shadow_Commit (k : Nat) (u0 : Tshadow_Shadow) (u1 : Int) : Option (Tshadow_Shadow × Int) :=
  ((shadow_Shadow_end k u0 u1).bind fun x1 =>
  (if (x1.2.2 != 0) then some (x1.1, x1.2.2)
  else ((shadow_Shadow_Commit.l0 k x1 k x1.1 0).bind fun (x24 : Tshadow_Shadow) =>
    some (x24, 0))))
def slices_Sort_int (u0 : List Int) : Option (List Int) := sortI u0
def shadow_Shadow_Open.l0 (k : Nat) (u0 : Tshadow_Shadow) : Nat → (List Int) → Int → Option (List Int)
  | 0, _, _ => none
  | m + 1, x6, x9 =>
    (if (decide (x9 < (u0.open_.length : Int))) then ((idx u0.open_ x9).bind fun x19 =>
      ((app 8 x6 ([x19.id])).bind fun x35 =>
      shadow_Shadow_Open.l0 k u0 m x35 (IntKind.i64.wrap (x9 + 1))))
    else some x6)
def shadow_Shadow_Open (k : Nat) (u0 : Tshadow_Shadow) : Option (List Int) :=
  (if false then some ([])
  else ((shadow_Shadow_Open.l0 k u0 k ([]) 0).bind fun (x10 : (List Int)) =>
    ((slices_Sort_int x10).bind fun x15 =>
    some x15)))
def ref01_Ints.l0 (k : Nat) (u0 : List Int) (u1 : List Int) : Nat → Int → Option (Lo Bool Unit)
  | 0, _ => none
  | m + 1, x3 =>
    (if (decide (x3 < (u0.length : Int))) then ((idx u0 x3).bind fun x8 =>
      ((idx u1 x3).bind fun x14 =>
      (if (x8 != x14) then some (Lo.ret false)
      else ref01_Ints.l0 k u0 u1 m (IntKind.i64.wrap (x3 + 1)))))
    else some (Lo.brk ()))
def ref01_Ints (k : Nat) (u0 : List Int) (u1 : List Int) : Option Bool :=
  (if ((u0.length : Int) != (u1.length : Int)) then some false
  else ((ref01_Ints.l0 k u0 u1 k 0).bind fun (o : Lo Bool Unit) => match o with
    | .ret r => some r
    | .brk _ => some true))
def law22_ShadowSteps.l1 (k : Nat) (x101 : List TChange) (x121 : Tshadow_Shadow × Int) : Nat → AL3_26 → Int → Option (Lo Bool AL3_26)
  | 0, _, _ => none
  | m + 1, x137, x144 =>
    (if (decide (x144 < 3)) then (if 0 ≤ x144 ∧ x144 < 3 then ((ref19_For k x101 x144).bind fun x171 =>
      ((ref04_Laid k (x137.at x144) x171).bind fun x176 =>
      ((shadow_Shadow_Table k x121.1 x144).bind fun x181 =>
      ((ref04_Same k x181 ((x137.upd x144 x176).at x144)).bind fun x185 =>
      (if (!x185) then some (Lo.ret false)
      else law22_ShadowSteps.l1 k x101 x121 m (x137.upd x144 x176) (IntKind.i64.wrap (x144 + 1))))))) else none)
    else some (Lo.brk x137))
def law22_ShadowSteps.l0 (k : Nat) (u0 : List (List TChange)) : Nat → AL3_26 → Tshadow_Shadow → Int → Option (Lo Bool (AL3_26 × Tshadow_Shadow))
  | 0, _, _, _ => none
  | m + 1, x28, x35, x40 =>
    (if (decide (x40 < (u0.length : Int))) then (((idx u0 x40).bind fun x101 =>
      (if (decide (8 < (x101.length : Int))) then ((law22_answers k).bind fun x111 =>
        some (Lo.ret x111))
      else ((shadow_Shadow_Begin k x35 x40 x101).bind fun x121 =>
        (if (x121.2 != 0) then some (Lo.brk (x121.1, x28))
        else ((law22_ShadowSteps.l1 k x101 x121 k x28 0).bind fun (o : Lo Bool AL3_26) => match o with
          | .ret r => some (Lo.ret r)
          | .brk x145 => ((shadow_Shadow_Commit k x121.1 x40).bind fun x154 =>
            (if (x154.2 != 0) then some (Lo.ret false)
            else some (Lo.brk (x154.1, x145))))))))).bind fun (o : Lo Bool (Tshadow_Shadow × AL3_26)) => match o with
      | .ret r => some (Lo.ret r)
      | .brk (x87, x92) => law22_ShadowSteps.l0 k u0 m x92 x87 (IntKind.i64.wrap (x40 + 1)))
    else some (Lo.brk (x28, x35)))
def law22_ShadowSteps (k : Nat) (u0 : List (List TChange)) : Option Bool :=
  (if (decide (8 < (u0.length : Int))) then ((law22_answers k).bind fun x2 =>
    some x2)
  else ((shadow_New 3).bind fun x5 =>
    ((law22_ShadowSteps.l0 k u0 k AL3_26.zero x5 0).bind fun (o : Lo Bool (AL3_26 × Tshadow_Shadow)) => match o with
    | .ret r => some r
    | .brk (x41, x48) => (((law22_answers k).bind fun x58 =>
      (if x58 then ((shadow_Shadow_Table k x48 0).bind fun x62 =>
        ((ref04_Same k x62 x41.e0).bind fun x66 =>
        (if x66 then ((shadow_Shadow_Table k x48 2).bind fun x70 =>
          ((ref04_Same k x70 x41.e2).bind fun x74 =>
          (if x74 then ((shadow_Shadow_Open k x48).bind fun x78 =>
            ((ref01_Ints k x78 ([])).bind fun x82 =>
            some x82))
          else some false)))
        else some false)))
      else some false)).bind fun (x55 : Bool) =>
      some x55))))
def shadow_Shadow_Gone_1 (u0 : TRule) (y0 : TRule) : Option Bool :=
  ((rule_Key u0 y0).bind fun x2 =>
  some x2)
def slices_Delete_Rule (u0 : List TRule) (u1 u2 : Int) : Option (List TRule) := delO u0 u1 u2
def shadow_Shadow_Gone (k : Nat) (u0 : Tshadow_Shadow) (u1 : Int) (u2 : TRule) : Option (Tshadow_Shadow × Bool) :=
  (if ((false || (decide (u1 < 0))) || (decide ((u0.base.length : Int) ≤ u1))) then some (u0, false)
  else ((idx u0.base u1).bind fun x5 =>
    ((slices_IndexFunc_Rule k x5 (fun (a0 : TRule) => shadow_Shadow_Gone_1 a0 u2)).bind fun x16 =>
    ((if (decide (0 ≤ x16)) then ((rule_Copy k x5).bind fun x36 =>
      ((slices_Delete_Rule x36 x16 (IntKind.i64.wrap (x16 + 1))).bind fun x41 =>
      some (Tshadow_Shadow.setbase u0 (u0.base.set u1.toNat x41))))
    else some u0).bind fun (x19 : Tshadow_Shadow) =>
    some (x19, (decide (0 ≤ x16)))))))
def law22_ShadowPlays.l3 (k : Nat) (x102 : List Tpodestalaw22_open) (x108 : Int) : Nat → (List TRule) → Int → Option (List TRule)
  | 0, _, _ => none
  | m + 1, x143, x146 =>
    (if (decide (x146 < (x102.length : Int))) then ((idx x102 x146).bind fun x154 =>
      ((ref19_For k x154.l x108).bind fun x165 =>
      ((ref04_Laid k x143 x165).bind fun x170 =>
      law22_ShadowPlays.l3 k x102 x108 m x170 (IntKind.i64.wrap (x146 + 1)))))
    else some x143)
def law22_ShadowPlays.l2 (k : Nat) (u0 : Int) (x96 : List (List TRule)) (x97 : Tshadow_Shadow) (x102 : List Tpodestalaw22_open) : Nat → Int → Option (Lo Bool Unit)
  | 0, _ => none
  | m + 1, x108 =>
    (if (decide (x108 ≤ (IntKind.i64.wrap (Int.tmod u0 4)))) then ((if ((decide (0 ≤ x108)) && (decide (x108 < (IntKind.i64.wrap (Int.tmod u0 4))))) then ((idx x96 x108).bind fun x128 =>
        ((law22_ShadowPlays.l3 k x102 x108 k x128 0).bind fun (x147 : (List TRule)) =>
        some x147))
      else some ([])).bind fun (x114 : (List TRule)) =>
      ((shadow_Shadow_Table k x97 x108).bind fun x119 =>
      ((ref04_Same k x119 x114).bind fun x123 =>
      (if (!x123) then some (Lo.ret false)
      else law22_ShadowPlays.l2 k u0 x96 x97 x102 m (IntKind.i64.wrap (x108 + 1))))))
    else some (Lo.brk ()))
def law22_ShadowPlays.l4 (k : Nat) (u0 : Int) (x74 : Tpodestalaw22_Act) : Nat → Int → Int → Option Int
  | 0, _, _ => none
  | m + 1, x189, x190 =>
    (if (decide (x190 < (x74.L.length : Int))) then (((idx x74.L x190).bind fun x222 =>
      ((if ((decide (x222.Unit < 0)) || (decide ((IntKind.i64.wrap (Int.tmod u0 4)) ≤ x222.Unit))) then some 1
      else some x189).bind fun (x239 : Int) =>
      some x239)).bind fun (x219 : Int) =>
      law22_ShadowPlays.l4 k u0 x74 m x219 (IntKind.i64.wrap (x190 + 1)))
    else some x189)
def law22_ShadowPlays.l5 (k : Nat) (u0 : Int) (x37 : List Tpodestalaw22_open) (x74 : Tpodestalaw22_Act) (x93 : Int) : Nat → (List (List TRule)) → Int → Option (List (List TRule))
  | 0, _, _ => none
  | m + 1, x273, x274 =>
    (if (((decide (x274 < (IntKind.i64.wrap (Int.tmod u0 4)))) && (decide (0 ≤ x93))) && (x74.What == 1)) then ((idx x273 x274).bind fun x306 =>
      ((idx x37 x93).bind fun x317 =>
      ((ref19_For k x317.l x274).bind fun x328 =>
      ((ref04_Laid k x306 x328).bind fun x333 =>
      law22_ShadowPlays.l5 k u0 x37 x74 x93 m (x273.set x274.toNat x333) (IntKind.i64.wrap (x274 + 1))))))
    else some x273)
def law22_ShadowPlays.l7 (k : Nat) (x74 : Tpodestalaw22_Act) (x366 : List (List TRule)) (x368 : Int) : Nat → Bool → (List TRule) → Int → Option (Bool × (List TRule))
  | 0, _, _, _ => none
  | m + 1, x387, x388, x391 =>
    ((idx x366 x368).bind fun x410 =>
    (if (decide (x391 < (x410.length : Int))) then (((if (x368 == x74.Unit) then ((idx x410 x391).bind fun x441 =>
        ((ref04_Key x441 x74.Rule).bind fun x450 =>
        some x450))
      else some false).bind fun (x429 : Bool) =>
      ((if x429 then some (true, x388)
      else ((idx x410 x391).bind fun x468 =>
        ((app 272 x388 ([x468])).bind fun x481 =>
        some (x387, x481)))).bind fun (o : Bool × (List TRule)) => match o with
      | (x452, x453) => some (x452, x453))).bind fun (o : Bool × (List TRule)) => match o with
      | (x422, x423) => law22_ShadowPlays.l7 k x74 x366 x368 m x422 x423 (IntKind.i64.wrap (x391 + 1)))
    else some (x387, x388)))
def law22_ShadowPlays.l6 (k : Nat) (u0 : Int) (x74 : Tpodestalaw22_Act) : Nat → (List (List TRule)) → Bool → Int → Option ((List (List TRule)) × Bool)
  | 0, _, _, _ => none
  | m + 1, x366, x367, x368 =>
    (if (decide (x368 < (IntKind.i64.wrap (Int.tmod u0 4)))) then ((law22_ShadowPlays.l7 k x74 x366 x368 k x367 ([]) 0).bind fun (o : Bool × (List TRule)) => match o with
      | (x392, x393) => ((idx x366 x368).bind fun x398 =>
        law22_ShadowPlays.l6 k u0 x74 m (x366.set x368.toNat x393) x392 (IntKind.i64.wrap (x368 + 1))))
    else some (x366, x367))
def law22_ShadowPlays.l1 (k : Nat) (x37 : List Tpodestalaw22_open) (x74 : Tpodestalaw22_Act) : Nat → Int → Int → Option Int
  | 0, _, _ => none
  | m + 1, x91, x92 =>
    (if (decide (x92 < (x37.length : Int))) then (((idx x37 x92).bind fun x489 =>
      ((if (x489.txn == x74.Txn) then some x92
      else some x91).bind fun (x500 : Int) =>
      some x500)).bind fun (x486 : Int) =>
      law22_ShadowPlays.l1 k x37 x74 m x486 (IntKind.i64.wrap (x92 + 1)))
    else some x91)
def law22_ShadowPlays.l0 (k : Nat) (u0 : Int) (u1 : List Tpodestalaw22_Act) : Nat → (List (List TRule)) → Tshadow_Shadow → (List Tpodestalaw22_open) → Int → Option (Lo Bool (Tshadow_Shadow × (List Tpodestalaw22_open)))
  | 0, _, _, _, _ => none
  | m + 1, x31, x32, x37, x40 =>
    (if (decide (x40 < (u1.length : Int))) then (((idx u1 x40).bind fun x74 =>
      (if ((decide (10 < (x74.L.length : Int))) || (decide (20 < (x74.Rule.Acts.length : Int)))) then some (Lo.brk (x31, x32, x37))
      else ((law22_ShadowPlays.l1 k x37 x74 k (-1) 0).bind fun (x93 : Int) =>
        (((if (x74.What == 0) then ((law22_ShadowPlays.l4 k u0 x74 k 0 0).bind fun (x191 : Int) =>
          ((if (decide (0 ≤ x93)) then some 5
          else some x191).bind fun (x194 : Int) =>
          ((shadow_Shadow_Begin k x32 x74.Txn x74.L).bind fun x197 =>
          (if (x197.2 != x194) then some (Lo.ret false)
          else ((if (x194 == 0) then ((app 32 x37 ([({ txn := x74.Txn, l := x74.L } : Tpodestalaw22_open)])).bind fun x214 =>
              some x214)
            else some x37).bind fun (x204 : (List Tpodestalaw22_open)) =>
            some (Lo.brk (x31, x197.1, x204)))))))
        else ((if (x74.What == 1) then some (x74.What == 1)
          else some (x74.What == 2)).bind fun (x243 : Bool) =>
          ((if x243 then ((if (decide (x93 < 0)) then some 4
            else some 0).bind fun (x258 : Int) =>
            ((if (x74.What == 1) then ((shadow_Shadow_Commit k x32 x74.Txn).bind fun x348 =>
              some (x348.1, x348.2))
            else ((shadow_Shadow_Abort k x32 x74.Txn).bind fun x354 =>
              some (x354.1, x354.2))).bind fun (o : Tshadow_Shadow × Int) => match o with
            | (x261, x266) => (if (x266 != x258) then some (Lo.ret false)
              else ((law22_ShadowPlays.l5 k u0 x37 x74 x93 k x31 0).bind fun (x275 : (List (List TRule))) =>
                ((if (decide (0 ≤ x93)) then (if 0 ≤ 0 ∧ 0 ≤ x93 ∧ x93 ≤ x37.length then (if 0 ≤ (IntKind.i64.wrap (x93 + 1)) ∧ (IntKind.i64.wrap (x93 + 1)) ≤ (x37.length : Int) ∧ (x37.length : Int) ≤ x37.length then ((app 32 ([] : List Tpodestalaw22_open) ((x37.take x93.toNat).drop 0)).bind fun x296 =>
                  ((app 32 x296 ((x37.take x37.length).drop (IntKind.i64.wrap (x93 + 1)).toNat)).bind fun x300 =>
                  some x300)) else none) else none)
                else some x37).bind fun (x278 : (List Tpodestalaw22_open)) =>
                some (Lo.brk (x275, x261, x278)))))))
          else ((law22_ShadowPlays.l6 k u0 x74 k x31 false 0).bind fun (o : (List (List TRule)) × Bool) => match o with
            | (x369, x370) => ((shadow_Shadow_Gone k x32 x74.Unit x74.Rule).bind fun x373 =>
              (if (!(x373.2 == x370)) then some (Lo.ret false)
              else some (Lo.brk (x369, x373.1, x37)))))).bind fun (o : Lo Bool ((List (List TRule)) × Tshadow_Shadow × (List Tpodestalaw22_open))) => match o with
          | .ret r => some (Lo.ret r)
          | .brk (x246, x247, x252) => some (Lo.brk (x246, x247, x252))))).bind fun (o : Lo Bool ((List (List TRule)) × Tshadow_Shadow × (List Tpodestalaw22_open))) => match o with
        | .ret r => some (Lo.ret r)
        | .brk (x175, x176, x181) => some (Lo.brk (x175, x176, x181))).bind fun (o : Lo Bool ((List (List TRule)) × Tshadow_Shadow × (List Tpodestalaw22_open))) => match o with
        | .ret r => some (Lo.ret r)
        | .brk (x96, x97, x102) => ((law22_ShadowPlays.l2 k u0 x96 x97 x102 k (-1)).bind fun (o : Lo Bool Unit) => match o with
          | .ret r => some (Lo.ret r)
          | .brk _ => some (Lo.brk (x96, x97, x102))))))).bind fun (o : Lo Bool ((List (List TRule)) × Tshadow_Shadow × (List Tpodestalaw22_open))) => match o with
      | .ret r => some (Lo.ret r)
      | .brk (x63, x64, x69) => law22_ShadowPlays.l0 k u0 u1 m x63 x64 x69 (IntKind.i64.wrap (x40 + 1)))
    else some (Lo.brk (x32, x37)))
def law22_ShadowPlays (k : Nat) (u0 : Int) (u1 : List Tpodestalaw22_Act) : Option Bool :=
  (if (decide (40 < (u1.length : Int))) then ((law22_answers k).bind fun x2 =>
    some x2)
  else ((shadow_New (IntKind.i64.wrap (Int.tmod u0 4))).bind fun x5 =>
    ((mkS 24 ([] : List TRule) (IntKind.i64.wrap (Int.tmod u0 4))).bind fun x15 =>
    ((law22_ShadowPlays.l0 k u0 u1 k x15 x5 ([]) 0).bind fun (o : Lo Bool (Tshadow_Shadow × (List Tpodestalaw22_open))) => match o with
    | .ret r => some r
    | .brk (x41, x46) => ((law22_answers k).bind fun x51 =>
      ((if x51 then ((shadow_Shadow_Open k x41).bind fun x57 =>
        some ((x57.length : Int) == (x46.length : Int)))
      else some false).bind fun (x55 : Bool) =>
      some x55))))))
end Go.Proofs.YtgfnkigoaajllaaGreat
