/- Plain functions with the same answers as the Go functions. -/
import Derived.Test.YtangebngeeamoaaD
set_option linter.unusedVariables false
set_option linter.unusedSimpArgs false
set_option maxRecDepth 100000
set_option maxHeartbeats 4000000
namespace Go.Proofs.Ytangebngeeamoaa
open Go.RowKit Go.Pod
def head_there (u0 : Int) : Option Bool :=
  some ((decide (0 ≤ u0)) && (decide (u0 < 12)))
def head_fields  : Option (Fin 12 → Thead_field) :=
  some ((fun q => bif Nat.beq q.val 0 then ({ name_ := (ByteArray.mk #[105, 110]), size_ := 16 } : Thead_field) else bif Nat.beq q.val 1 then ({ name_ := (ByteArray.mk #[101, 115, 114, 99]), size_ := 48 } : Thead_field) else bif Nat.beq q.val 2 then ({ name_ := (ByteArray.mk #[101, 100, 115, 116]), size_ := 48 } : Thead_field) else bif Nat.beq q.val 3 then ({ name_ := (ByteArray.mk #[101, 116, 121, 112, 101]), size_ := 16 } : Thead_field) else bif Nat.beq q.val 4 then ({ name_ := (ByteArray.mk #[118, 108, 97, 110]), size_ := 12 } : Thead_field) else bif Nat.beq q.val 5 then ({ name_ := (ByteArray.mk #[112, 99, 112]), size_ := 4 } : Thead_field) else bif Nat.beq q.val 6 then ({ name_ := (ByteArray.mk #[115, 114, 99]), size_ := 32 } : Thead_field) else bif Nat.beq q.val 7 then ({ name_ := (ByteArray.mk #[100, 115, 116]), size_ := 32 } : Thead_field) else bif Nat.beq q.val 8 then ({ name_ := (ByteArray.mk #[112, 114, 111, 116, 111]), size_ := 8 } : Thead_field) else bif Nat.beq q.val 9 then ({ name_ := (ByteArray.mk #[116, 111, 115]), size_ := 8 } : Thead_field) else bif Nat.beq q.val 10 then ({ name_ := (ByteArray.mk #[115, 112, 111, 114, 116]), size_ := 12 } : Thead_field) else bif Nat.beq q.val 11 then ({ name_ := (ByteArray.mk #[100, 112, 111, 114, 116]), size_ := 12 } : Thead_field) else Thead_field.zero) : Fin 12 → Thead_field)
def head_Size (u0 : Int) : Option Int :=
  ((head_there u0).bind fun x1 =>
  (if (!x1) then some 0
  else ((head_fields).bind fun x5 =>
    (if 0 ≤ u0 ∧ u0 < 12 then some ((atA Thead_field.zero x5 u0).size_) else none))))
def head_fits (u0 : Int) (u1 : Int) : Option Bool :=
  ((head_Size u0).bind fun x1 =>
  (if 0 ≤ x1 then some ((bShr .u64 u1 x1) == 0) else none))
def head_Sound.l0 (k : Nat) (u0 : Arr 12) : Nat → Int → Option (Lo Bool Unit)
  | 0, _ => none
  | m + 1, x3 =>
    (if (decide (x3 < 12)) then (if 0 ≤ x3 ∧ x3 < 12 then ((head_fits x3 (u0.at x3)).bind fun x9 =>
      (if (!x9) then some (Lo.ret false)
      else head_Sound.l0 k u0 m (IntKind.i64.wrap (x3 + 1)))) else none)
    else some (Lo.brk ()))
def head_Sound (k : Nat) (u0 : Arr 12) : Option Bool :=
  ((head_Sound.l0 k u0 k 0).bind fun (o : Lo Bool Unit) => match o with
  | .ret r => some r
  | .brk _ => some true)
def cube_Sound.l0 (k : Nat) (u0 : TCube) : Nat → Int → Option (Lo Bool Unit)
  | 0, _ => none
  | m + 1, x7 =>
    (if (decide (x7 < 12)) then (if 0 ≤ x7 ∧ x7 < 12 then (if ((bAndNot .u64 (u0.Value.at x7) (u0.Care.at x7)) != 0) then some (Lo.ret false)
      else cube_Sound.l0 k u0 m (IntKind.i64.wrap (x7 + 1))) else none)
    else some (Lo.brk ()))
def cube_Sound (k : Nat) (u0 : TCube) : Option Bool :=
  ((head_Sound k u0.Care).bind fun x2 =>
  (if (!x2) then some false
  else ((cube_Sound.l0 k u0 k 0).bind fun (o : Lo Bool Unit) => match o with
    | .ret r => some r
    | .brk _ => some true)))
def cube_both (k : Nat) (u0 : TCube) (u1 : TCube) : Option Bool :=
  ((cube_Sound k u0).bind fun x3 =>
  ((if x3 then ((cube_Sound k u1).bind fun x10 =>
    some x10)
  else some false).bind fun (x7 : Bool) =>
  some x7))
def cube_Meet.l0 (k : Nat) (u1 : TCube) : Nat → TCube → Int → Option (Lo (TCube × Bool) TCube)
  | 0, _, _ => none
  | m + 1, x11, x12 =>
    (if (decide (x12 < 12)) then (if 0 ≤ x12 ∧ x12 < 12 then (if ((bAnd .u64 (bAnd .u64 (bXor .u64 (x11.Value.at x12) (u1.Value.at x12)) (x11.Care.at x12)) (u1.Care.at x12)) != 0) then some (Lo.ret (TCube.zero, false))
      else cube_Meet.l0 k u1 m ({ Value := (x11.Value.upd x12 (bOr .u64 (x11.Value.at x12) (u1.Value.at x12))), Care := (x11.Care.upd x12 (bOr .u64 (x11.Care.at x12) (u1.Care.at x12))) } : TCube) (IntKind.i64.wrap (x12 + 1))) else none)
    else some (Lo.brk x11))
def cube_Meet (k : Nat) (u0 : TCube) (u1 : TCube) : Option (TCube × Bool) :=
  ((cube_both k u0 u1).bind fun x4 =>
  (if (!x4) then some (TCube.zero, false)
  else ((cube_Meet.l0 k u1 k u0 0).bind fun (o : Lo (TCube × Bool) TCube) => match o with
    | .ret r => some r
    | .brk x13 => some (x13, true))))
def ref01_Size (u0 : Int) : Option Int :=
  (if ((decide (u0 < 0)) || (decide (11 < u0))) then some 0
  else ((idx ([16, 48, 48, 16, 12, 4, 32, 32, 8, 8, 12, 12]) u0).bind fun x5 =>
    some x5))
def ref01_Fits (u0 : Int) (u1 : Int) : Option Bool :=
  (if 0 ≤ (IntKind.u64.wrap u1) then some (decide (u0 < (bShl .u64 1 (IntKind.u64.wrap u1)))) else none)
def ref01_Head.l0 (k : Nat) (u0 : Arr 12) : Nat → Int → Option (Lo Bool Unit)
  | 0, _ => none
  | m + 1, x3 =>
    (if (decide (x3 < 12)) then (if 0 ≤ x3 ∧ x3 < 12 then ((ref01_Size x3).bind fun x9 =>
      ((ref01_Fits (u0.at x3) x9).bind fun x11 =>
      (if (!x11) then some (Lo.ret false)
      else ref01_Head.l0 k u0 m (IntKind.i64.wrap (x3 + 1))))) else none)
    else some (Lo.brk ()))
def ref01_Head (k : Nat) (u0 : Arr 12) : Option Bool :=
  ((ref01_Head.l0 k u0 k 0).bind fun (o : Lo Bool Unit) => match o with
  | .ret r => some r
  | .brk _ => some true)
def ref01_Bits.l0 (k : Nat) (u0 : Int) : Nat → (List Bool) → Int → Option (List Bool)
  | 0, _, _ => none
  | m + 1, x5, x8 =>
    (if (decide (0 ≤ x8)) then (if 0 ≤ (IntKind.u64.wrap x8) then ((app 1 x5 ([((bAnd .u64 (bShr .u64 u0 (IntKind.u64.wrap x8)) 1) == 1)])).bind fun x19 =>
      ref01_Bits.l0 k u0 m x19 (IntKind.i64.wrap (x8 - 1))) else none)
    else some x5)
def ref01_Bits (k : Nat) (u0 : Int) (u1 : Int) : Option (List Bool) :=
  ((ref01_Bits.l0 k u0 k ([]) (IntKind.i64.wrap (u1 - 1))).bind fun (x9 : (List Bool)) =>
  some x9)
def ref01_Text.l1 (k : Nat) (x30 : (List Bool)) (x38 : (List Bool)) : Nat → (List Int) → Int → Option (List Int)
  | 0, _, _ => none
  | m + 1, x47, x50 =>
    (if (decide (x50 < (x30.length : Int))) then ((((idx x38 x50).bind fun x68 =>
      ((if (!x68) then ((app 1 x47 ([120])).bind fun x84 =>
        some x84)
      else ((idx x30 x50).bind fun x88 =>
        ((if x88 then ((app 1 x47 ([49])).bind fun x104 =>
          some x104)
        else ((app 1 x47 ([48])).bind fun x110 =>
          some x110)).bind fun (x96 : (List Int)) =>
        some x96))).bind fun (x76 : (List Int)) =>
      some x76)).bind fun (x63 : (List Int)) =>
      some x63).bind fun (x58 : (List Int)) =>
      ref01_Text.l1 k x30 x38 m x58 (IntKind.i64.wrap (x50 + 1)))
    else some x47)
def ref01_Text.l0 (k : Nat) (u0 : TCube) : Nat → (List Int) → Bool → Int → Option ((List Int) × Bool)
  | 0, _, _, _ => none
  | m + 1, x10, x13, x14 =>
    (if (decide (x14 < 12)) then (if 0 ≤ x14 ∧ x14 < 12 then ((if ((bAndNot .u64 (u0.Value.at x14) (u0.Care.at x14)) != 0) then some false
      else some x13).bind fun (x24 : Bool) =>
      ((ref01_Size x14).bind fun x27 =>
      ((ref01_Bits k (u0.Value.at x14) x27).bind fun x30 =>
      ((ref01_Size x14).bind fun x35 =>
      ((ref01_Bits k (u0.Care.at x14) x35).bind fun x38 =>
      ((ref01_Text.l1 k x30 x38 k x10 0).bind fun (x51 : (List Int)) =>
      ref01_Text.l0 k u0 m x51 x24 (IntKind.i64.wrap (x14 + 1)))))))) else none)
    else some (x10, x13))
def ref01_Text (k : Nat) (u0 : TCube) : Option (ByteArray × Bool) :=
  ((ref01_Head k u0.Care).bind fun x2 =>
  ((ref01_Text.l0 k u0 k ([]) x2 0).bind fun (o : (List Int) × Bool) => match o with
  | (x15, x18) => some ((strOfNums x15), x18)))
def ref01_From.l1 (k : Nat) (u0 : ByteArray) (x10 : Int) : Nat → TCube → Int → Int → Option (TCube × Int)
  | 0, _, _, _ => none
  | m + 1, x21, x22, x23 =>
    ((ref01_Size x10).bind fun x29 =>
    (if (decide (x23 < x29)) then (if 0 ≤ x10 ∧ x10 < 12 then (if 0 ≤ x22 ∧ x22 < u0.size then ((if ((byteAt u0 x22) != 120) then some ({ Value := (x21.Value.upd x10 (IntKind.u64.wrap ((x21.Value.at x10) * 2))), Care := ((x21.Care.upd x10 (IntKind.u64.wrap ((x21.Care.at x10) * 2))).upd x10 (IntKind.u64.wrap (((x21.Care.upd x10 (IntKind.u64.wrap ((x21.Care.at x10) * 2))).at x10) + 1))) } : TCube)
      else some ({ Value := (x21.Value.upd x10 (IntKind.u64.wrap ((x21.Value.at x10) * 2))), Care := (x21.Care.upd x10 (IntKind.u64.wrap ((x21.Care.at x10) * 2))) } : TCube)).bind fun (x35 : TCube) =>
      ((if ((byteAt u0 x22) == 49) then some (TCube.setValue x35 (x35.Value.upd x10 (IntKind.u64.wrap ((x35.Value.at x10) + 1))))
      else some x35).bind fun (x38 : TCube) =>
      ref01_From.l1 k u0 x10 m x38 (IntKind.i64.wrap (x22 + 1)) (IntKind.i64.wrap (x23 + 1)))) else none) else none)
    else some (x21, x22)))
def ref01_From.l0 (k : Nat) (u0 : ByteArray) : Nat → TCube → Int → Int → Option TCube
  | 0, _, _, _ => none
  | m + 1, x8, x9, x10 =>
    (if (decide (x10 < 12)) then ((ref01_From.l1 k u0 x10 k x8 x9 0).bind fun (o : TCube × Int) => match o with
      | (x24, x25) => ref01_From.l0 k u0 m x24 x25 (IntKind.i64.wrap (x10 + 1)))
    else some x8)
def ref01_From (k : Nat) (u0 : ByteArray) : Option TCube :=
  ((ref01_From.l0 k u0 k TCube.zero 0 0).bind fun (x11 : TCube) =>
  some x11)
def ref01_Meet.l0 (k : Nat) (x4 : ByteArray × Bool) (x7 : ByteArray × Bool) : Nat → (List Int) → Int → Option (Lo (TCube × Bool) (List Int))
  | 0, _, _ => none
  | m + 1, x21, x24 =>
    (if (decide (x24 < (x4.1.size : Int))) then ((if 0 ≤ x24 ∧ x24 < x4.1.size then ((if ((byteAt x4.1 x24) == 120) then (if 0 ≤ x24 ∧ x24 < x7.1.size then ((idx x21 x24).bind fun x48 =>
        some (Lo.brk (x21.set x24.toNat (byteAt x7.1 x24)))) else none)
      else (if 0 ≤ x24 ∧ x24 < x7.1.size then (if (((byteAt x7.1 x24) != 120) && ((byteAt x4.1 x24) != (byteAt x7.1 x24))) then some (Lo.ret (TCube.zero, false))
        else some (Lo.brk x21)) else none)).bind fun (o : Lo (TCube × Bool) (List Int)) => match o with
      | .ret r => some (Lo.ret r)
      | .brk x41 => some (Lo.brk x41)) else none).bind fun (o : Lo (TCube × Bool) (List Int)) => match o with
      | .ret r => some (Lo.ret r)
      | .brk x35 => ref01_Meet.l0 k x4 x7 m x35 (IntKind.i64.wrap (x24 + 1)))
    else some (Lo.brk x21))
def ref01_Meet (k : Nat) (u0 : TCube) (u1 : TCube) : Option (TCube × Bool) :=
  ((ref01_Text k u0).bind fun x4 =>
  ((ref01_Text k u1).bind fun x7 =>
  (if ((!x4.2) || (!x7.2)) then some (TCube.zero, false)
  else ((toBytes x4.1).bind fun x12 =>
    ((ref01_Meet.l0 k x4 x7 k x12 0).bind fun (o : Lo (TCube × Bool) (List Int)) => match o with
    | .ret r => some r
    | .brk x25 => ((ref01_From k (strOfNums x25)).bind fun x30 =>
      some (x30, true)))))))
def cube_Less.l1 (k : Nat) (u1 : TCube) (x27 : Int) : Nat → TCube → (List TCube) → Int → Option (TCube × (List TCube))
  | 0, _, _, _ => none
  | m + 1, x47, x48, x51 =>
    (if (decide (0 ≤ x51)) then ((if 0 ≤ x51 then (if 0 ≤ x27 ∧ x27 < 12 then (if ((bAnd .u64 (bAndNot .u64 (u1.Care.at x27) (x47.Care.at x27)) (bShl .u64 1 x51)) == 0) then some (x47, x48)
      else ((app 192 x48 ([({ Value := (x47.Value.upd x27 (bOr .u64 (x47.Value.at x27) (bAnd .u64 (bNot .u64 (u1.Value.at x27)) (bShl .u64 1 x51)))), Care := (x47.Care.upd x27 (bOr .u64 (x47.Care.at x27) (bShl .u64 1 x51))) } : TCube)])).bind fun x72 =>
        some (({ Value := (x47.Value.upd x27 (bOr .u64 (x47.Value.at x27) (bAnd .u64 (u1.Value.at x27) (bShl .u64 1 x51)))), Care := (x47.Care.upd x27 (bOr .u64 (x47.Care.at x27) (bShl .u64 1 x51))) } : TCube), x72))) else none) else none).bind fun (o : TCube × (List TCube)) => match o with
      | (x60, x61) => cube_Less.l1 k u1 x27 m x60 x61 (IntKind.i64.wrap (x51 - 1)))
    else some (x47, x48))
def cube_Less.l0 (k : Nat) (u1 : TCube) : Nat → TCube → (List TCube) → Int → Option (List TCube)
  | 0, _, _, _ => none
  | m + 1, x23, x24, x27 =>
    (if (decide (x27 < 12)) then ((head_Size x27).bind fun x35 =>
      ((cube_Less.l1 k u1 x27 k x23 x24 (IntKind.i64.wrap (x35 - 1))).bind fun (o : TCube × (List TCube)) => match o with
      | (x52, x53) => cube_Less.l0 k u1 m x52 x53 (IntKind.i64.wrap (x27 + 1))))
    else some x24)
def cube_Less (k : Nat) (u0 : TCube) (u1 : TCube) : Option (List TCube) :=
  ((cube_both k u0 u1).bind fun x3 =>
  (if (!x3) then some ([])
  else ((cube_Meet k u0 u1).bind fun x7 =>
    (if (!x7.2) then some ([u0])
    else ((cube_Less.l0 k u1 k u0 ([]) 0).bind fun (x28 : (List TCube)) =>
      some x28)))))
def cube_Has.l0 (k : Nat) (u0 : TCube) (u1 : Arr 12) : Nat → Int → Option (Lo Bool Unit)
  | 0, _ => none
  | m + 1, x4 =>
    (if (decide (x4 < 12)) then (if 0 ≤ x4 ∧ x4 < 12 then (if ((bAnd .u64 (u1.at x4) (u0.Care.at x4)) != (u0.Value.at x4)) then some (Lo.ret false)
      else cube_Has.l0 k u0 u1 m (IntKind.i64.wrap (x4 + 1))) else none)
    else some (Lo.brk ()))
def cube_Has (k : Nat) (u0 : TCube) (u1 : Arr 12) : Option Bool :=
  ((cube_Has.l0 k u0 u1 k 0).bind fun (o : Lo Bool Unit) => match o with
  | .ret r => some r
  | .brk _ => ((cube_Sound k u0).bind fun x7 =>
    ((if x7 then ((head_Sound k u1).bind fun x14 =>
      some x14)
    else some false).bind fun (x11 : Bool) =>
    some x11)))
def ref01_Whole.l1 (k : Nat) (x21 : (List Bool)) : Nat → (List Int) → Int → Option (List Int)
  | 0, _, _ => none
  | m + 1, x30, x33 =>
    (if (decide (x33 < (x21.length : Int))) then (((idx x21 x33).bind fun x46 =>
      ((if x46 then ((app 1 x30 ([49])).bind fun x62 =>
        some x62)
      else ((app 1 x30 ([48])).bind fun x68 =>
        some x68)).bind fun (x54 : (List Int)) =>
      some x54)).bind fun (x41 : (List Int)) =>
      ref01_Whole.l1 k x21 m x41 (IntKind.i64.wrap (x33 + 1)))
    else some x30)
def ref01_Whole.l0 (k : Nat) (u0 : Arr 12) : Nat → (List Int) → Int → Option (List Int)
  | 0, _, _ => none
  | m + 1, x6, x9 =>
    (if (decide (x9 < 12)) then (if 0 ≤ x9 ∧ x9 < 12 then ((ref01_Size x9).bind fun x18 =>
      ((ref01_Bits k (u0.at x9) x18).bind fun x21 =>
      ((ref01_Whole.l1 k x21 k x6 0).bind fun (x34 : (List Int)) =>
      ref01_Whole.l0 k u0 m x34 (IntKind.i64.wrap (x9 + 1))))) else none)
    else some x6)
def ref01_Whole (k : Nat) (u0 : Arr 12) : Option ByteArray :=
  ((ref01_Whole.l0 k u0 k ([]) 0).bind fun (x10 : (List Int)) =>
  some (strOfNums x10))
def ref01_Has.l0 (k : Nat) (x3 : ByteArray × Bool) (x6 : ByteArray) : Nat → Bool → Int → Option Bool
  | 0, _, _ => none
  | m + 1, x11, x12 =>
    (if (decide (x12 < (x3.1.size : Int))) then ((if x11 then (if 0 ≤ x12 ∧ x12 < x3.1.size then ((if ((byteAt x3.1 x12) == 120) then some true
        else (if 0 ≤ x12 ∧ x12 < x6.size then some ((byteAt x3.1 x12) == (byteAt x6 x12)) else none)).bind fun (x31 : Bool) =>
        some x31) else none)
      else some false).bind fun (x26 : Bool) =>
      ref01_Has.l0 k x3 x6 m x26 (IntKind.i64.wrap (x12 + 1)))
    else some x11)
def ref01_Has (k : Nat) (u0 : TCube) (u1 : Arr 12) : Option Bool :=
  ((ref01_Text k u0).bind fun x3 =>
  ((ref01_Whole k u1).bind fun x6 =>
  ((ref01_Has.l0 k x3 x6 k x3.2 0).bind fun (x13 : Bool) =>
  ((if x13 then ((ref01_Head k u1).bind fun x20 =>
    some x20)
  else some false).bind fun (x17 : Bool) =>
  some x17))))
def ref01_Cube (k : Nat) (u0 : TCube) : Option Bool :=
  ((ref01_Text k u0).bind fun x2 =>
  some x2.2)
def cube_All  : Option TCube :=
  some TCube.zero
def head_Set (u0 : Arr 12) (u1 : Int) (u2 : Int) : Option ((Arr 12) × Int) :=
  ((head_there u1).bind fun x3 =>
  (if (!x3) then some (A12u64.zero, 1)
  else ((head_fits u1 u2).bind fun x7 =>
    (if (!x7) then some (A12u64.zero, 13)
    else (if 0 ≤ u1 ∧ u1 < 12 then some ((u0.upd u1 u2), 0) else none)))))
def head_Mask (u0 : Int) (u1 : Int) : Option (Int × Bool) :=
  ((head_there u0).bind fun x1 =>
  ((if ((!x1) || (decide (u1 < 0))) then some true
  else ((head_Size u0).bind fun x9 =>
    some (decide (x9 < u1)))).bind fun (x6 : Bool) =>
  (if x6 then some (0, false)
  else (if 0 ≤ u1 then ((head_Size u0).bind fun x14 =>
    (if 0 ≤ (IntKind.i64.wrap (x14 - u1)) then some ((bShl .u64 (IntKind.u64.wrap ((bShl .u64 1 u1) - 1)) (IntKind.i64.wrap (x14 - u1))), true) else none)) else none))))
def cube_With (k : Nat) (u0 : TCube) (u1 : Int) (u2 : Int) (u3 : Int) : Option (TCube × Int) :=
  ((cube_Sound k u0).bind fun x3 =>
  (if (!x3) then some (TCube.zero, 2)
  else ((head_Set u0.Value u1 u2).bind fun x7 =>
    (if (x7.2 != 0) then some (TCube.zero, x7.2)
    else ((head_Mask u1 u3).bind fun x12 =>
      (if (!x12.2) then some (TCube.zero, 13)
      else (if 0 ≤ u1 ∧ u1 < 12 then some (({ Value := (u0.Value.upd u1 (bAnd .u64 u2 x12.1)), Care := (u0.Care.upd u1 x12.1) } : TCube), 0) else none)))))))
def law02_answers (k : Nat)  : Option Bool :=
  ((cube_All).bind fun x1 =>
  ((cube_With k x1 6 167772160 8).bind fun x4 =>
  ((if (x4.2 == 0) then ((cube_Has k x4.1 ((fun q => bif Nat.beq q.val 6 then 167838211 else 0) : Arr 12)).bind fun x12 =>
    some x12)
  else some false).bind fun (x9 : Bool) =>
  ((if x9 then ((cube_Has k x4.1 A12u64.zero).bind fun x19 =>
    some (!x19))
  else some false).bind fun (x16 : Bool) =>
  some x16))))
def cube_Within (k : Nat) (u0 : TCube) (u1 : TCube) : Option Bool :=
  ((cube_Meet k u0 u1).bind fun x3 =>
  some (x3.2 && (cellsEq (TCube.enc x3.1) (TCube.enc u0))))
def ref01_Plain.l0 (k : Nat) (u0 : TCube) : Nat → Int → Option (Lo Bool Unit)
  | 0, _ => none
  | m + 1, x3 =>
    (if (decide (x3 < 12)) then (if 0 ≤ x3 ∧ x3 < 12 then (if ((bAndNot .u64 (u0.Value.at x3) (u0.Care.at x3)) != 0) then some (Lo.ret false)
      else ref01_Plain.l0 k u0 m (IntKind.i64.wrap (x3 + 1))) else none)
    else some (Lo.brk ()))
def ref01_Plain (k : Nat) (u0 : TCube) : Option Bool :=
  ((ref01_Plain.l0 k u0 k 0).bind fun (o : Lo Bool Unit) => match o with
  | .ret r => some r
  | .brk _ => ((ref01_Head k u0.Care).bind fun x6 =>
    some x6))
def ref01_Within.l0 (k : Nat) (u0 : TCube) (u1 : TCube) : Nat → Int → Option (Lo Bool Unit)
  | 0, _ => none
  | m + 1, x4 =>
    (if (decide (x4 < 12)) then (if 0 ≤ x4 ∧ x4 < 12 then (if (((bAndNot .u64 (u1.Care.at x4) (u0.Care.at x4)) != 0) || ((bAnd .u64 (bXor .u64 (u0.Value.at x4) (u1.Value.at x4)) (u1.Care.at x4)) != 0)) then some (Lo.ret false)
      else ref01_Within.l0 k u0 u1 m (IntKind.i64.wrap (x4 + 1))) else none)
    else some (Lo.brk ()))
def ref01_Within (k : Nat) (u0 : TCube) (u1 : TCube) : Option Bool :=
  ((ref01_Within.l0 k u0 u1 k 0).bind fun (o : Lo Bool Unit) => match o with
  | .ret r => some r
  | .brk _ => ((ref01_Plain k u0).bind fun x7 =>
    ((if x7 then ((ref01_Plain k u1).bind fun x14 =>
      some x14)
    else some false).bind fun (x11 : Bool) =>
    some x11)))
def ref01_Less.l0 (k : Nat) (x3 : ByteArray × Bool) (x6 : ByteArray × Bool) : Nat → (List TCube) → (List Int) → Int → Option (List TCube)
  | 0, _, _, _ => none
  | m + 1, x33, x36, x39 =>
    (if (decide (x39 < (x3.1.size : Int))) then ((if 0 ≤ x39 ∧ x39 < x3.1.size then ((if ((byteAt x3.1 x39) != 120) then some true
      else (if 0 ≤ x39 ∧ x39 < x6.1.size then some ((byteAt x6.1 x39) == 120) else none)).bind fun (x57 : Bool) =>
      (if x57 then some (x33, x36)
      else (if 0 ≤ x39 ∧ x39 < x6.1.size then ((idx x36 x39).bind fun x63 =>
        ((ref01_From k (strOfNums (x36.set x39.toNat (IntKind.u8.wrap (97 - (byteAt x6.1 x39)))))).bind fun x71 =>
        ((app 192 x33 ([x71])).bind fun x76 =>
        ((idx (x36.set x39.toNat (IntKind.u8.wrap (97 - (byteAt x6.1 x39)))) x39).bind fun x80 =>
        some (x76, ((x36.set x39.toNat (IntKind.u8.wrap (97 - (byteAt x6.1 x39)))).set x39.toNat (byteAt x6.1 x39))))))) else none))) else none).bind fun (o : (List TCube) × (List Int)) => match o with
      | (x47, x50) => ref01_Less.l0 k x3 x6 m x47 x50 (IntKind.i64.wrap (x39 + 1)))
    else some x33)
def ref01_Less (k : Nat) (u0 : TCube) (u1 : TCube) : Option (List TCube) :=
  ((ref01_Text k u0).bind fun x3 =>
  ((ref01_Text k u1).bind fun x6 =>
  (if ((!x3.2) || (!x6.2)) then some ([])
  else ((ref01_Meet k u0 u1).bind fun x11 =>
    (if (!x11.2) then some ([u0])
    else ((toBytes x3.1).bind fun x18 =>
      ((ref01_Less.l0 k x3 x6 k ([]) x18 0).bind fun (x40 : (List TCube)) =>
      some x40)))))))
def ref01_SameCubes.l0 (k : Nat) (u0 : List TCube) (u1 : List TCube) : Nat → Int → Option (Lo Bool Unit)
  | 0, _ => none
  | m + 1, x3 =>
    (if (decide (x3 < (u0.length : Int))) then ((idx u0 x3).bind fun x8 =>
      ((idx u1 x3).bind fun x14 =>
      (if (!(cellsEq (TCube.enc x8) (TCube.enc x14))) then some (Lo.ret false)
      else ref01_SameCubes.l0 k u0 u1 m (IntKind.i64.wrap (x3 + 1)))))
    else some (Lo.brk ()))
def ref01_SameCubes (k : Nat) (u0 : List TCube) (u1 : List TCube) : Option Bool :=
  (if ((u0.length : Int) != (u1.length : Int)) then some false
  else ((ref01_SameCubes.l0 k u0 u1 k 0).bind fun (o : Lo Bool Unit) => match o with
    | .ret r => some r
    | .brk _ => some true))
def law02_CubeSets.l0 (k : Nat) (u2 : Arr 12) (x12 : (List TCube)) : Nat → Int → Int → Option Int
  | 0, _, _ => none
  | m + 1, x19, x20 =>
    (if (decide (x20 < (x12.length : Int))) then (((idx x12 x20).bind fun x132 =>
      ((cube_Has k x132 u2).bind fun x140 =>
      ((if x140 then some (IntKind.i64.wrap (x19 + 1))
      else some x19).bind fun (x142 : Int) =>
      some x142))).bind fun (x129 : Int) =>
      law02_CubeSets.l0 k u2 x12 m x129 (IntKind.i64.wrap (x20 + 1)))
    else some x19)
def law02_CubeSets (k : Nat) (u0 : TCube) (u1 : TCube) (u2 : Arr 12) : Option Bool :=
  ((cube_Meet k u0 u1).bind fun x4 =>
  ((ref01_Meet k u0 u1).bind fun x8 =>
  ((cube_Less k u0 u1).bind fun x12 =>
  ((law02_CubeSets.l0 k u2 x12 k 0 0).bind fun (x21 : Int) =>
  ((ref01_Has k u0 u2).bind fun x24 =>
  ((ref01_Has k u1 u2).bind fun x26 =>
  ((if (x24 && (!x26)) then ((ref01_Cube k u1).bind fun x33 =>
    some x33)
  else some false).bind fun (x30 : Bool) =>
  ((if x30 then some 1
  else some 0).bind fun (x36 : Int) =>
  (((law02_answers k).bind fun x42 =>
  (if x42 then ((cube_Has k u0 u2).bind fun x46 =>
    (if (x46 == x24) then (if (cellsEq (TCube.enc x4.1) (TCube.enc x8.1)) then (if (x4.2 == x8.2) then (if x4.2 then ((cube_Has k x4.1 u2).bind fun x53 =>
            (if x24 then (if (x53 == x26) then ((cube_Within k u0 u1).bind fun x58 =>
                ((ref01_Within k u0 u1).bind fun x61 =>
                (if (x58 == x61) then ((ref01_Less k u0 u1).bind fun x65 =>
                  ((ref01_SameCubes k x12 x65).bind fun x70 =>
                  (if x70 then some (x21 == x36)
                  else some false)))
                else some false)))
              else some false)
            else (if (x53 == false) then ((cube_Within k u0 u1).bind fun x75 =>
                ((ref01_Within k u0 u1).bind fun x78 =>
                (if (x75 == x78) then ((ref01_Less k u0 u1).bind fun x82 =>
                  ((ref01_SameCubes k x12 x82).bind fun x87 =>
                  (if x87 then some (x21 == x36)
                  else some false)))
                else some false)))
              else some false)))
          else (if x24 then (if (false == x26) then ((cube_Within k u0 u1).bind fun x93 =>
                ((ref01_Within k u0 u1).bind fun x96 =>
                (if (x93 == x96) then ((ref01_Less k u0 u1).bind fun x100 =>
                  ((ref01_SameCubes k x12 x100).bind fun x105 =>
                  (if x105 then some (x21 == x36)
                  else some false)))
                else some false)))
              else some false)
            else (if (false == false) then ((cube_Within k u0 u1).bind fun x110 =>
                ((ref01_Within k u0 u1).bind fun x113 =>
                (if (x110 == x113) then ((ref01_Less k u0 u1).bind fun x117 =>
                  ((ref01_SameCubes k x12 x117).bind fun x122 =>
                  (if x122 then some (x21 == x36)
                  else some false)))
                else some false)))
              else some false)))
        else some false)
      else some false)
    else some false))
  else some false)).bind fun (x39 : Bool) =>
  some x39)))))))))
end Go.Proofs.Ytangebngeeamoaa
