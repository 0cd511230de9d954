/- Plain types with the same values as the Go types, and how they stand in cells. -/
import Derived.Test.YtangebngeeamoaaL15
set_option linter.unusedVariables false
set_option linter.unusedSimpArgs false
set_option maxRecDepth 100000
set_option maxHeartbeats 4000000
namespace Go.Proofs.Ytangebngeeamoaa
open Go.RowKit Go.Pod
structure Thead_field where
  name_ : ByteArray
  size_ : Int
def Thead_field.zero : Thead_field := { name_ := ByteArray.empty, size_ := 0 }
def Thead_field.enc (x : Thead_field) : List Go.Value := [.string (x.name_), .int .i64 (x.size_)]
theorem Thead_field.enc_len (x : Thead_field) : (Thead_field.enc x).length = 2 := rfl
theorem Thead_field.enc_one (x : Thead_field) : ∀ u ∈ Thead_field.enc x, u.oneCell' = true := allOne (by simp [Thead_field.enc, Go.Value.oneCell'])
def k_Thead_field : Kd Thead_field := Kd.flat 2 Thead_field.enc Thead_field.enc_len Thead_field.enc_one
def A12Thead_field.zero : Fin 12 → Thead_field := fun _ => Thead_field.zero
def A12Thead_field.enc (x : Fin 12 → Thead_field) : List Go.Value := [.string ((x 0).name_), .int .i64 ((x 0).size_), .string ((x 1).name_), .int .i64 ((x 1).size_), .string ((x 2).name_), .int .i64 ((x 2).size_), .string ((x 3).name_), .int .i64 ((x 3).size_), .string ((x 4).name_), .int .i64 ((x 4).size_), .string ((x 5).name_), .int .i64 ((x 5).size_), .string ((x 6).name_), .int .i64 ((x 6).size_), .string ((x 7).name_), .int .i64 ((x 7).size_), .string ((x 8).name_), .int .i64 ((x 8).size_), .string ((x 9).name_), .int .i64 ((x 9).size_), .string ((x 10).name_), .int .i64 ((x 10).size_), .string ((x 11).name_), .int .i64 ((x 11).size_)]
theorem A12Thead_field.enc_len (x : Fin 12 → Thead_field) : (A12Thead_field.enc x).length = 24 := rfl
theorem A12Thead_field.enc_one (x : Fin 12 → Thead_field) : ∀ u ∈ A12Thead_field.enc x, u.oneCell' = true := allOne (by simp [A12Thead_field.enc, Go.Value.oneCell'])
def k_A12Thead_field : Kd (Fin 12 → Thead_field) := Kd.flat 24 A12Thead_field.enc A12Thead_field.enc_len A12Thead_field.enc_one
theorem A12Thead_field.get (x : Fin 12 → Thead_field) (i : Int) (h0 : 0 ≤ i) (h1 : i < 12) : ((A12Thead_field.enc x).drop (i.toNat * 2)).take 2 = Thead_field.enc (atA Thead_field.zero x i) := by
  obtain ⟨n, rfl⟩ := Int.eq_ofNat_of_zero_le h0
  match n, h1 with
  | 0, _ => rfl
  | 1, _ => rfl
  | 2, _ => rfl
  | 3, _ => rfl
  | 4, _ => rfl
  | 5, _ => rfl
  | 6, _ => rfl
  | 7, _ => rfl
  | 8, _ => rfl
  | 9, _ => rfl
  | 10, _ => rfl
  | 11, _ => rfl
def A12u64.zero : Arr 12 := fun _ => 0
def A12u64.enc (x : Arr 12) : List Go.Value := [.int .u64 (x 0), .int .u64 (x 1), .int .u64 (x 2), .int .u64 (x 3), .int .u64 (x 4), .int .u64 (x 5), .int .u64 (x 6), .int .u64 (x 7), .int .u64 (x 8), .int .u64 (x 9), .int .u64 (x 10), .int .u64 (x 11)]
def A12u64.list (x : Arr 12) : List Int := [x 0, x 1, x 2, x 3, x 4, x 5, x 6, x 7, x 8, x 9, x 10, x 11]
theorem A12u64.enc_len (x : Arr 12) : (A12u64.enc x).length = 12 := rfl
theorem A12u64.enc_one (x : Arr 12) : ∀ u ∈ A12u64.enc x, u.oneCell' = true := allOne (by simp [A12u64.enc, Go.Value.oneCell'])
def k_A12u64 : Kd (Arr 12) := Kd.flat 12 A12u64.enc A12u64.enc_len A12u64.enc_one
theorem A12u64.get (x : Arr 12) (i : Int) (h0 : 0 ≤ i) (h1 : i < 12) : ((A12u64.enc x).drop (i.toNat * 1)).take 1 = [.int .u64 (x.at i)] := by
  obtain ⟨n, rfl⟩ := Int.eq_ofNat_of_zero_le h0
  match n, h1 with
  | 0, _ => rfl
  | 1, _ => rfl
  | 2, _ => rfl
  | 3, _ => rfl
  | 4, _ => rfl
  | 5, _ => rfl
  | 6, _ => rfl
  | 7, _ => rfl
  | 8, _ => rfl
  | 9, _ => rfl
  | 10, _ => rfl
  | 11, _ => rfl
theorem A12u64.set (x : Arr 12) (i v : Int) (h0 : 0 ≤ i) (h1 : i < 12) : (A12u64.enc x).take (i.toNat * 1) ++ [.int .u64 v] ++ (A12u64.enc x).drop (i.toNat * 1 + 1) = A12u64.enc (x.upd i v) := by
  obtain ⟨n, rfl⟩ := Int.eq_ofNat_of_zero_le h0
  match n, h1 with
  | 0, _ => rfl
  | 1, _ => rfl
  | 2, _ => rfl
  | 3, _ => rfl
  | 4, _ => rfl
  | 5, _ => rfl
  | 6, _ => rfl
  | 7, _ => rfl
  | 8, _ => rfl
  | 9, _ => rfl
  | 10, _ => rfl
  | 11, _ => rfl
structure TCube where
  Value : Arr 12
  Care : Arr 12
def TCube.zero : TCube := { Value := A12u64.zero, Care := A12u64.zero }
def TCube.enc (x : TCube) : List Go.Value := [.int .u64 (x.Value 0), .int .u64 (x.Value 1), .int .u64 (x.Value 2), .int .u64 (x.Value 3), .int .u64 (x.Value 4), .int .u64 (x.Value 5), .int .u64 (x.Value 6), .int .u64 (x.Value 7), .int .u64 (x.Value 8), .int .u64 (x.Value 9), .int .u64 (x.Value 10), .int .u64 (x.Value 11), .int .u64 (x.Care 0), .int .u64 (x.Care 1), .int .u64 (x.Care 2), .int .u64 (x.Care 3), .int .u64 (x.Care 4), .int .u64 (x.Care 5), .int .u64 (x.Care 6), .int .u64 (x.Care 7), .int .u64 (x.Care 8), .int .u64 (x.Care 9), .int .u64 (x.Care 10), .int .u64 (x.Care 11)]
theorem TCube.enc_len (x : TCube) : (TCube.enc x).length = 24 := rfl
theorem TCube.enc_one (x : TCube) : ∀ u ∈ TCube.enc x, u.oneCell' = true := allOne (by simp [TCube.enc, Go.Value.oneCell'])
def k_TCube : Kd TCube := Kd.flat 24 TCube.enc TCube.enc_len TCube.enc_one
structure TAct where
  Kind : Int
  Port : Int
  Field : Int
  Value : Int
def TAct.zero : TAct := { Kind := 0, Port := 0, Field := 0, Value := 0 }
def TAct.enc (x : TAct) : List Go.Value := [.int .i64 (x.Kind), .int .i64 (x.Port), .int .i64 (x.Field), .int .u64 (x.Value)]
theorem TAct.enc_len (x : TAct) : (TAct.enc x).length = 4 := rfl
theorem TAct.enc_one (x : TAct) : ∀ u ∈ TAct.enc x, u.oneCell' = true := allOne (by simp [TAct.enc, Go.Value.oneCell'])
def k_TAct : Kd TAct := Kd.flat 4 TAct.enc TAct.enc_len TAct.enc_one
structure TRule where
  Match : TCube
  Prio : Int
  Acts : List TAct
  Idle : Int
  Hard : Int
  Owner : Int
  Hits : Int
  Quiet : Int
  Age : Int
def TRule.zero : TRule := { Match := TCube.zero, Prio := 0, Acts := [], Idle := 0, Hard := 0, Owner := 0, Hits := 0, Quiet := 0, Age := 0 }
def TRule.enc (x : TRule) (A0 : Option Addr) (c0 : Nat) : List Go.Value := [.int .u64 (x.Match.Value 0), .int .u64 (x.Match.Value 1), .int .u64 (x.Match.Value 2), .int .u64 (x.Match.Value 3), .int .u64 (x.Match.Value 4), .int .u64 (x.Match.Value 5), .int .u64 (x.Match.Value 6), .int .u64 (x.Match.Value 7), .int .u64 (x.Match.Value 8), .int .u64 (x.Match.Value 9), .int .u64 (x.Match.Value 10), .int .u64 (x.Match.Value 11), .int .u64 (x.Match.Care 0), .int .u64 (x.Match.Care 1), .int .u64 (x.Match.Care 2), .int .u64 (x.Match.Care 3), .int .u64 (x.Match.Care 4), .int .u64 (x.Match.Care 5), .int .u64 (x.Match.Care 6), .int .u64 (x.Match.Care 7), .int .u64 (x.Match.Care 8), .int .u64 (x.Match.Care 9), .int .u64 (x.Match.Care 10), .int .u64 (x.Match.Care 11), .int .i64 (x.Prio), .slice A0 (x.Acts).length c0, .int .i64 (x.Idle), .int .i64 (x.Hard), .int .i64 (x.Owner), .int .i64 (x.Hits), .int .i64 (x.Quiet), .int .i64 (x.Age)]
theorem TRule.enc_one (x : TRule) (A0 : Option Addr) (c0 : Nat) : ∀ u ∈ TRule.enc x A0 c0, u.oneCell' = true := allOne (by simp [TRule.enc, Go.Value.oneCell'])
def k_TRule : Kd TRule where
  sz := 32
  R := fun M W cs x => ∃ A0 c0, cs = TRule.enc x A0 c0 ∧ SlR k_TAct M W A0 c0 x.Acts
  len := fun ⟨A0, c0, h, _⟩ => by rw [h]; rfl
  one := fun ⟨A0, c0, h, _⟩ => by rw [h]; exact TRule.enc_one _ _ _
  st := fun ⟨A0, c0, h, h0⟩ s => ⟨A0, c0, h, h0.st s⟩
structure TMod where
  Kind : Int
  Match : TCube
  Prio : Int
  Acts : List TAct
  Idle : Int
  Hard : Int
  Owner : Int
  Check : Bool
def TMod.zero : TMod := { Kind := 0, Match := TCube.zero, Prio := 0, Acts := [], Idle := 0, Hard := 0, Owner := 0, Check := false }
def TMod.enc (x : TMod) (A0 : Option Addr) (c0 : Nat) : List Go.Value := [.int .i64 (x.Kind), .int .u64 (x.Match.Value 0), .int .u64 (x.Match.Value 1), .int .u64 (x.Match.Value 2), .int .u64 (x.Match.Value 3), .int .u64 (x.Match.Value 4), .int .u64 (x.Match.Value 5), .int .u64 (x.Match.Value 6), .int .u64 (x.Match.Value 7), .int .u64 (x.Match.Value 8), .int .u64 (x.Match.Value 9), .int .u64 (x.Match.Value 10), .int .u64 (x.Match.Value 11), .int .u64 (x.Match.Care 0), .int .u64 (x.Match.Care 1), .int .u64 (x.Match.Care 2), .int .u64 (x.Match.Care 3), .int .u64 (x.Match.Care 4), .int .u64 (x.Match.Care 5), .int .u64 (x.Match.Care 6), .int .u64 (x.Match.Care 7), .int .u64 (x.Match.Care 8), .int .u64 (x.Match.Care 9), .int .u64 (x.Match.Care 10), .int .u64 (x.Match.Care 11), .int .i64 (x.Prio), .slice A0 (x.Acts).length c0, .int .i64 (x.Idle), .int .i64 (x.Hard), .int .i64 (x.Owner), .bool (x.Check)]
theorem TMod.enc_one (x : TMod) (A0 : Option Addr) (c0 : Nat) : ∀ u ∈ TMod.enc x A0 c0, u.oneCell' = true := allOne (by simp [TMod.enc, Go.Value.oneCell'])
def k_TMod : Kd TMod where
  sz := 31
  R := fun M W cs x => ∃ A0 c0, cs = TMod.enc x A0 c0 ∧ SlR k_TAct M W A0 c0 x.Acts
  len := fun ⟨A0, c0, h, _⟩ => by rw [h]; rfl
  one := fun ⟨A0, c0, h, _⟩ => by rw [h]; exact TMod.enc_one _ _ _
  st := fun ⟨A0, c0, h, h0⟩ s => ⟨A0, c0, h, h0.st s⟩
structure Tundo_Patch where
  Gone : List TRule
  New : List TRule
def Tundo_Patch.zero : Tundo_Patch := { Gone := [], New := [] }
def Tundo_Patch.enc (x : Tundo_Patch) (A0 : Option Addr) (c0 : Nat) (A1 : Option Addr) (c1 : Nat) : List Go.Value := [.slice A0 (x.Gone).length c0, .slice A1 (x.New).length c1]
theorem Tundo_Patch.enc_one (x : Tundo_Patch) (A0 : Option Addr) (c0 : Nat) (A1 : Option Addr) (c1 : Nat) : ∀ u ∈ Tundo_Patch.enc x A0 c0 A1 c1, u.oneCell' = true := allOne (by simp [Tundo_Patch.enc, Go.Value.oneCell'])
def k_Tundo_Patch : Kd Tundo_Patch where
  sz := 2
  R := fun M W cs x => ∃ A0 c0 A1 c1, cs = Tundo_Patch.enc x A0 c0 A1 c1 ∧ SlR k_TRule M W A0 c0 x.Gone ∧ SlR k_TRule M W A1 c1 x.New
  len := fun ⟨A0, c0, A1, c1, h, _⟩ => by rw [h]; rfl
  one := fun ⟨A0, c0, A1, c1, h, _⟩ => by rw [h]; exact Tundo_Patch.enc_one _ _ _ _ _
  st := fun ⟨A0, c0, A1, c1, h, h0, h1⟩ s => ⟨A0, c0, A1, c1, h, h0.st s, h1.st s⟩
def TCube.setCare (x : TCube) (v : Arr 12) : TCube := { x with Care := v }
def TRule.setActs (x : TRule) (v : List TAct) : TRule := { x with Acts := v }
def TCube.setValue (x : TCube) (v : Arr 12) : TCube := { x with Value := v }
theorem TCube.get_Care (x : TCube) (i : Int) (h0 : 0 ≤ i) (h1 : i < 12) : ((TCube.enc x).drop (12 + i.toNat * 1)).take 1 = [.int .u64 ((x.Care).at i)] := by
  obtain ⟨n, rfl⟩ := Int.eq_ofNat_of_zero_le h0
  match n, h1 with
  | 0, _ => rfl
  | 1, _ => rfl
  | 2, _ => rfl
  | 3, _ => rfl
  | 4, _ => rfl
  | 5, _ => rfl
  | 6, _ => rfl
  | 7, _ => rfl
  | 8, _ => rfl
  | 9, _ => rfl
  | 10, _ => rfl
  | 11, _ => rfl
theorem TCube.set_Care (x : TCube) (i v : Int) (h0 : 0 ≤ i) (h1 : i < 12) : (TCube.enc x).take (12 + i.toNat * 1) ++ [.int .u64 v] ++ (TCube.enc x).drop (12 + i.toNat * 1 + 1) = TCube.enc ({ x with Care := (x.Care).upd i v }) := by
  obtain ⟨n, rfl⟩ := Int.eq_ofNat_of_zero_le h0
  match n, h1 with
  | 0, _ => rfl
  | 1, _ => rfl
  | 2, _ => rfl
  | 3, _ => rfl
  | 4, _ => rfl
  | 5, _ => rfl
  | 6, _ => rfl
  | 7, _ => rfl
  | 8, _ => rfl
  | 9, _ => rfl
  | 10, _ => rfl
  | 11, _ => rfl
theorem TCube.get_Value (x : TCube) (i : Int) (h0 : 0 ≤ i) (h1 : i < 12) : ((TCube.enc x).drop (0 + i.toNat * 1)).take 1 = [.int .u64 ((x.Value).at i)] := by
  obtain ⟨n, rfl⟩ := Int.eq_ofNat_of_zero_le h0
  match n, h1 with
  | 0, _ => rfl
  | 1, _ => rfl
  | 2, _ => rfl
  | 3, _ => rfl
  | 4, _ => rfl
  | 5, _ => rfl
  | 6, _ => rfl
  | 7, _ => rfl
  | 8, _ => rfl
  | 9, _ => rfl
  | 10, _ => rfl
  | 11, _ => rfl
theorem TCube.set_Value (x : TCube) (i v : Int) (h0 : 0 ≤ i) (h1 : i < 12) : (TCube.enc x).take (0 + i.toNat * 1) ++ [.int .u64 v] ++ (TCube.enc x).drop (0 + i.toNat * 1 + 1) = TCube.enc ({ x with Value := (x.Value).upd i v }) := by
  obtain ⟨n, rfl⟩ := Int.eq_ofNat_of_zero_le h0
  match n, h1 with
  | 0, _ => rfl
  | 1, _ => rfl
  | 2, _ => rfl
  | 3, _ => rfl
  | 4, _ => rfl
  | 5, _ => rfl
  | 6, _ => rfl
  | 7, _ => rfl
  | 8, _ => rfl
  | 9, _ => rfl
  | 10, _ => rfl
  | 11, _ => rfl
end Go.Proofs.Ytangebngeeamoaa
