/- Plain types with the same values as the Go types, and how they stand in cells. -/
import Derived.Test.YtgfnkigoaajllaaGreatL14
set_option linter.unusedVariables false
set_option linter.unusedSimpArgs false
set_option maxRecDepth 100000
set_option maxHeartbeats 4000000
namespace Go.Proofs.YtgfnkigoaajllaaGreat
open Go.RowKit Go.Pod
def A12u64.zero : Arr 12 := fun _ => 0
def A12u64.enc (x : Arr 12) : List Go.Value := [.int .u64 (x 0), .int .u64 (x 1), .int .u64 (x 2), .int .u64 (x 3), .int .u64 (x 4), .int .u64 (x 5), .int .u64 (x 6), .int .u64 (x 7), .int .u64 (x 8), .int .u64 (x 9), .int .u64 (x 10), .int .u64 (x 11)]
def A12u64.list (x : Arr 12) : List Int := [x 0, x 1, x 2, x 3, x 4, x 5, x 6, x 7, x 8, x 9, x 10, x 11]
theorem A12u64.enc_len (x : Arr 12) : (A12u64.enc x).length = 12 := rfl
theorem A12u64.enc_one (x : Arr 12) : ∀ u ∈ A12u64.enc x, u.oneCell' = true := allOne (by simp [A12u64.enc, Go.Value.oneCell'])
def k_A12u64 : Kd (Arr 12) := Kd.flat 12 A12u64.enc A12u64.enc_len A12u64.enc_one
theorem A12u64.get (x : Arr 12) (i : Int) (h0 : 0 ≤ i) (h1 : i < 12) : ((A12u64.enc x).drop (i.toNat * 1)).take 1 = [.int .u64 (x.at i)] := by
  obtain ⟨n, rfl⟩ := Int.eq_ofNat_of_zero_le h0
  match n, h1 with
  | 0, _ => rfl
  | 1, _ => rfl
  | 2, _ => rfl
  | 3, _ => rfl
  | 4, _ => rfl
  | 5, _ => rfl
  | 6, _ => rfl
  | 7, _ => rfl
  | 8, _ => rfl
  | 9, _ => rfl
  | 10, _ => rfl
  | 11, _ => rfl
theorem A12u64.set (x : Arr 12) (i v : Int) (h0 : 0 ≤ i) (h1 : i < 12) : (A12u64.enc x).take (i.toNat * 1) ++ [.int .u64 v] ++ (A12u64.enc x).drop (i.toNat * 1 + 1) = A12u64.enc (x.upd i v) := by
  obtain ⟨n, rfl⟩ := Int.eq_ofNat_of_zero_le h0
  match n, h1 with
  | 0, _ => rfl
  | 1, _ => rfl
  | 2, _ => rfl
  | 3, _ => rfl
  | 4, _ => rfl
  | 5, _ => rfl
  | 6, _ => rfl
  | 7, _ => rfl
  | 8, _ => rfl
  | 9, _ => rfl
  | 10, _ => rfl
  | 11, _ => rfl
structure TCube where
  Value : Arr 12
  Care : Arr 12
def TCube.zero : TCube := { Value := A12u64.zero, Care := A12u64.zero }
def TCube.enc (x : TCube) : List Go.Value := [.int .u64 (x.Value 0), .int .u64 (x.Value 1), .int .u64 (x.Value 2), .int .u64 (x.Value 3), .int .u64 (x.Value 4), .int .u64 (x.Value 5), .int .u64 (x.Value 6), .int .u64 (x.Value 7), .int .u64 (x.Value 8), .int .u64 (x.Value 9), .int .u64 (x.Value 10), .int .u64 (x.Value 11), .int .u64 (x.Care 0), .int .u64 (x.Care 1), .int .u64 (x.Care 2), .int .u64 (x.Care 3), .int .u64 (x.Care 4), .int .u64 (x.Care 5), .int .u64 (x.Care 6), .int .u64 (x.Care 7), .int .u64 (x.Care 8), .int .u64 (x.Care 9), .int .u64 (x.Care 10), .int .u64 (x.Care 11)]
theorem TCube.enc_len (x : TCube) : (TCube.enc x).length = 24 := rfl
theorem TCube.enc_one (x : TCube) : ∀ u ∈ TCube.enc x, u.oneCell' = true := allOne (by simp [TCube.enc, Go.Value.oneCell'])
def k_TCube : Kd TCube := Kd.flat 24 TCube.enc TCube.enc_len TCube.enc_one
structure TAct where
  Kind : Int
  Port : Int
  Field : Int
  Value : Int
def TAct.zero : TAct := { Kind := 0, Port := 0, Field := 0, Value := 0 }
def TAct.enc (x : TAct) : List Go.Value := [.int .i64 (x.Kind), .int .i64 (x.Port), .int .i64 (x.Field), .int .u64 (x.Value)]
theorem TAct.enc_len (x : TAct) : (TAct.enc x).length = 4 := rfl
theorem TAct.enc_one (x : TAct) : ∀ u ∈ TAct.enc x, u.oneCell' = true := allOne (by simp [TAct.enc, Go.Value.oneCell'])
def k_TAct : Kd TAct := Kd.flat 4 TAct.enc TAct.enc_len TAct.enc_one
structure TRule where
  Match : TCube
  Prio : Int
  Acts : List TAct
  Idle : Int
  Hard : Int
  Owner : Int
  Hits : Int
  Quiet : Int
  Age : Int
def TRule.zero : TRule := { Match := TCube.zero, Prio := 0, Acts := [], Idle := 0, Hard := 0, Owner := 0, Hits := 0, Quiet := 0, Age := 0 }
def TRule.enc (x : TRule) (A0 : Option Addr) (c0 : Nat) : List Go.Value := [.int .u64 (x.Match.Value 0), .int .u64 (x.Match.Value 1), .int .u64 (x.Match.Value 2), .int .u64 (x.Match.Value 3), .int .u64 (x.Match.Value 4), .int .u64 (x.Match.Value 5), .int .u64 (x.Match.Value 6), .int .u64 (x.Match.Value 7), .int .u64 (x.Match.Value 8), .int .u64 (x.Match.Value 9), .int .u64 (x.Match.Value 10), .int .u64 (x.Match.Value 11), .int .u64 (x.Match.Care 0), .int .u64 (x.Match.Care 1), .int .u64 (x.Match.Care 2), .int .u64 (x.Match.Care 3), .int .u64 (x.Match.Care 4), .int .u64 (x.Match.Care 5), .int .u64 (x.Match.Care 6), .int .u64 (x.Match.Care 7), .int .u64 (x.Match.Care 8), .int .u64 (x.Match.Care 9), .int .u64 (x.Match.Care 10), .int .u64 (x.Match.Care 11), .int .i64 (x.Prio), .slice A0 (x.Acts).length c0, .int .i64 (x.Idle), .int .i64 (x.Hard), .int .i64 (x.Owner), .int .i64 (x.Hits), .int .i64 (x.Quiet), .int .i64 (x.Age)]
theorem TRule.enc_one (x : TRule) (A0 : Option Addr) (c0 : Nat) : ∀ u ∈ TRule.enc x A0 c0, u.oneCell' = true := allOne (by simp [TRule.enc, Go.Value.oneCell'])
def k_TRule : Kd TRule where
  sz := 32
  R := fun M W cs x => ∃ A0 c0, cs = TRule.enc x A0 c0 ∧ SlR k_TAct M W A0 c0 x.Acts
  len := fun ⟨A0, c0, h, _⟩ => by rw [h]; rfl
  one := fun ⟨A0, c0, h, _⟩ => by rw [h]; exact TRule.enc_one _ _ _
  st := fun ⟨A0, c0, h, h0⟩ s => ⟨A0, c0, h, h0.st s⟩
structure TMod where
  Kind : Int
  Match : TCube
  Prio : Int
  Acts : List TAct
  Idle : Int
  Hard : Int
  Owner : Int
  Check : Bool
def TMod.zero : TMod := { Kind := 0, Match := TCube.zero, Prio := 0, Acts := [], Idle := 0, Hard := 0, Owner := 0, Check := false }
def TMod.enc (x : TMod) (A0 : Option Addr) (c0 : Nat) : List Go.Value := [.int .i64 (x.Kind), .int .u64 (x.Match.Value 0), .int .u64 (x.Match.Value 1), .int .u64 (x.Match.Value 2), .int .u64 (x.Match.Value 3), .int .u64 (x.Match.Value 4), .int .u64 (x.Match.Value 5), .int .u64 (x.Match.Value 6), .int .u64 (x.Match.Value 7), .int .u64 (x.Match.Value 8), .int .u64 (x.Match.Value 9), .int .u64 (x.Match.Value 10), .int .u64 (x.Match.Value 11), .int .u64 (x.Match.Care 0), .int .u64 (x.Match.Care 1), .int .u64 (x.Match.Care 2), .int .u64 (x.Match.Care 3), .int .u64 (x.Match.Care 4), .int .u64 (x.Match.Care 5), .int .u64 (x.Match.Care 6), .int .u64 (x.Match.Care 7), .int .u64 (x.Match.Care 8), .int .u64 (x.Match.Care 9), .int .u64 (x.Match.Care 10), .int .u64 (x.Match.Care 11), .int .i64 (x.Prio), .slice A0 (x.Acts).length c0, .int .i64 (x.Idle), .int .i64 (x.Hard), .int .i64 (x.Owner), .bool (x.Check)]
theorem TMod.enc_one (x : TMod) (A0 : Option Addr) (c0 : Nat) : ∀ u ∈ TMod.enc x A0 c0, u.oneCell' = true := allOne (by simp [TMod.enc, Go.Value.oneCell'])
def k_TMod : Kd TMod where
  sz := 31
  R := fun M W cs x => ∃ A0 c0, cs = TMod.enc x A0 c0 ∧ SlR k_TAct M W A0 c0 x.Acts
  len := fun ⟨A0, c0, h, _⟩ => by rw [h]; rfl
  one := fun ⟨A0, c0, h, _⟩ => by rw [h]; exact TMod.enc_one _ _ _
  st := fun ⟨A0, c0, h, h0⟩ s => ⟨A0, c0, h, h0.st s⟩
structure TChange where
  Unit : Int
  Mod : TMod
def TChange.zero : TChange := { Unit := 0, Mod := TMod.zero }
def TChange.enc (x : TChange) (A0 : Option Addr) (c0 : Nat) : List Go.Value := [.int .i64 (x.Unit), .int .i64 (x.Mod.Kind), .int .u64 (x.Mod.Match.Value 0), .int .u64 (x.Mod.Match.Value 1), .int .u64 (x.Mod.Match.Value 2), .int .u64 (x.Mod.Match.Value 3), .int .u64 (x.Mod.Match.Value 4), .int .u64 (x.Mod.Match.Value 5), .int .u64 (x.Mod.Match.Value 6), .int .u64 (x.Mod.Match.Value 7), .int .u64 (x.Mod.Match.Value 8), .int .u64 (x.Mod.Match.Value 9), .int .u64 (x.Mod.Match.Value 10), .int .u64 (x.Mod.Match.Value 11), .int .u64 (x.Mod.Match.Care 0), .int .u64 (x.Mod.Match.Care 1), .int .u64 (x.Mod.Match.Care 2), .int .u64 (x.Mod.Match.Care 3), .int .u64 (x.Mod.Match.Care 4), .int .u64 (x.Mod.Match.Care 5), .int .u64 (x.Mod.Match.Care 6), .int .u64 (x.Mod.Match.Care 7), .int .u64 (x.Mod.Match.Care 8), .int .u64 (x.Mod.Match.Care 9), .int .u64 (x.Mod.Match.Care 10), .int .u64 (x.Mod.Match.Care 11), .int .i64 (x.Mod.Prio), .slice A0 (x.Mod.Acts).length c0, .int .i64 (x.Mod.Idle), .int .i64 (x.Mod.Hard), .int .i64 (x.Mod.Owner), .bool (x.Mod.Check)]
theorem TChange.enc_one (x : TChange) (A0 : Option Addr) (c0 : Nat) : ∀ u ∈ TChange.enc x A0 c0, u.oneCell' = true := allOne (by simp [TChange.enc, Go.Value.oneCell'])
def k_TChange : Kd TChange where
  sz := 32
  R := fun M W cs x => ∃ A0 c0, cs = TChange.enc x A0 c0 ∧ SlR k_TAct M W A0 c0 x.Mod.Acts
  len := fun ⟨A0, c0, h, _⟩ => by rw [h]; rfl
  one := fun ⟨A0, c0, h, _⟩ => by rw [h]; exact TChange.enc_one _ _ _
  st := fun ⟨A0, c0, h, h0⟩ s => ⟨A0, c0, h, h0.st s⟩
structure Tshadow_open where
  id : Int
  list : List TChange
def Tshadow_open.zero : Tshadow_open := { id := 0, list := [] }
def Tshadow_open.enc (x : Tshadow_open) (A0 : Option Addr) (c0 : Nat) : List Go.Value := [.int .i64 (x.id), .slice A0 (x.list).length c0]
theorem Tshadow_open.enc_one (x : Tshadow_open) (A0 : Option Addr) (c0 : Nat) : ∀ u ∈ Tshadow_open.enc x A0 c0, u.oneCell' = true := allOne (by simp [Tshadow_open.enc, Go.Value.oneCell'])
def k_Tshadow_open : Kd Tshadow_open where
  sz := 2
  R := fun M W cs x => ∃ A0 c0, cs = Tshadow_open.enc x A0 c0 ∧ SlR k_TChange M W A0 c0 x.list
  len := fun ⟨A0, c0, h, _⟩ => by rw [h]; rfl
  one := fun ⟨A0, c0, h, _⟩ => by rw [h]; exact Tshadow_open.enc_one _ _ _
  st := fun ⟨A0, c0, h, h0⟩ s => ⟨A0, c0, h, h0.st s⟩
structure Tshadow_Shadow where
  base : List (List TRule)
  open_ : List Tshadow_open
def Tshadow_Shadow.zero : Tshadow_Shadow := { base := [], open_ := [] }
def Tshadow_Shadow.enc (x : Tshadow_Shadow) (A0 : Option Addr) (c0 : Nat) (A1 : Option Addr) (c1 : Nat) : List Go.Value := [.slice A0 (x.base).length c0, .slice A1 (x.open_).length c1]
theorem Tshadow_Shadow.enc_one (x : Tshadow_Shadow) (A0 : Option Addr) (c0 : Nat) (A1 : Option Addr) (c1 : Nat) : ∀ u ∈ Tshadow_Shadow.enc x A0 c0 A1 c1, u.oneCell' = true := allOne (by simp [Tshadow_Shadow.enc, Go.Value.oneCell'])
def k_Tshadow_Shadow : Kd Tshadow_Shadow where
  sz := 2
  R := fun M W cs x => ∃ A0 c0 A1 c1, cs = Tshadow_Shadow.enc x A0 c0 A1 c1 ∧ SlR (kSl k_TRule) M W A0 c0 x.base ∧ SlR k_Tshadow_open M W A1 c1 x.open_
  len := fun ⟨A0, c0, A1, c1, h, _⟩ => by rw [h]; rfl
  one := fun ⟨A0, c0, A1, c1, h, _⟩ => by rw [h]; exact Tshadow_Shadow.enc_one _ _ _ _ _
  st := fun ⟨A0, c0, A1, c1, h, h0, h1⟩ s => ⟨A0, c0, A1, c1, h, h0.st s, h1.st s⟩
structure Thead_field where
  name_ : ByteArray
  size_ : Int
def Thead_field.zero : Thead_field := { name_ := ByteArray.empty, size_ := 0 }
def Thead_field.enc (x : Thead_field) : List Go.Value := [.string (x.name_), .int .i64 (x.size_)]
theorem Thead_field.enc_len (x : Thead_field) : (Thead_field.enc x).length = 2 := rfl
theorem Thead_field.enc_one (x : Thead_field) : ∀ u ∈ Thead_field.enc x, u.oneCell' = true := allOne (by simp [Thead_field.enc, Go.Value.oneCell'])
def k_Thead_field : Kd Thead_field := Kd.flat 2 Thead_field.enc Thead_field.enc_len Thead_field.enc_one
def A12Thead_field.zero : Fin 12 → Thead_field := fun _ => Thead_field.zero
def A12Thead_field.enc (x : Fin 12 → Thead_field) : List Go.Value := [.string ((x 0).name_), .int .i64 ((x 0).size_), .string ((x 1).name_), .int .i64 ((x 1).size_), .string ((x 2).name_), .int .i64 ((x 2).size_), .string ((x 3).name_), .int .i64 ((x 3).size_), .string ((x 4).name_), .int .i64 ((x 4).size_), .string ((x 5).name_), .int .i64 ((x 5).size_), .string ((x 6).name_), .int .i64 ((x 6).size_), .string ((x 7).name_), .int .i64 ((x 7).size_), .string ((x 8).name_), .int .i64 ((x 8).size_), .string ((x 9).name_), .int .i64 ((x 9).size_), .string ((x 10).name_), .int .i64 ((x 10).size_), .string ((x 11).name_), .int .i64 ((x 11).size_)]
theorem A12Thead_field.enc_len (x : Fin 12 → Thead_field) : (A12Thead_field.enc x).length = 24 := rfl
theorem A12Thead_field.enc_one (x : Fin 12 → Thead_field) : ∀ u ∈ A12Thead_field.enc x, u.oneCell' = true := allOne (by simp [A12Thead_field.enc, Go.Value.oneCell'])
def k_A12Thead_field : Kd (Fin 12 → Thead_field) := Kd.flat 24 A12Thead_field.enc A12Thead_field.enc_len A12Thead_field.enc_one
theorem A12Thead_field.get (x : Fin 12 → Thead_field) (i : Int) (h0 : 0 ≤ i) (h1 : i < 12) : ((A12Thead_field.enc x).drop (i.toNat * 2)).take 2 = Thead_field.enc (atA Thead_field.zero x i) := by
  obtain ⟨n, rfl⟩ := Int.eq_ofNat_of_zero_le h0
  match n, h1 with
  | 0, _ => rfl
  | 1, _ => rfl
  | 2, _ => rfl
  | 3, _ => rfl
  | 4, _ => rfl
  | 5, _ => rfl
  | 6, _ => rfl
  | 7, _ => rfl
  | 8, _ => rfl
  | 9, _ => rfl
  | 10, _ => rfl
  | 11, _ => rfl
structure Tundo_Patch where
  Gone : List TRule
  New : List TRule
def Tundo_Patch.zero : Tundo_Patch := { Gone := [], New := [] }
def Tundo_Patch.enc (x : Tundo_Patch) (A0 : Option Addr) (c0 : Nat) (A1 : Option Addr) (c1 : Nat) : List Go.Value := [.slice A0 (x.Gone).length c0, .slice A1 (x.New).length c1]
theorem Tundo_Patch.enc_one (x : Tundo_Patch) (A0 : Option Addr) (c0 : Nat) (A1 : Option Addr) (c1 : Nat) : ∀ u ∈ Tundo_Patch.enc x A0 c0 A1 c1, u.oneCell' = true := allOne (by simp [Tundo_Patch.enc, Go.Value.oneCell'])
def k_Tundo_Patch : Kd Tundo_Patch where
  sz := 2
  R := fun M W cs x => ∃ A0 c0 A1 c1, cs = Tundo_Patch.enc x A0 c0 A1 c1 ∧ SlR k_TRule M W A0 c0 x.Gone ∧ SlR k_TRule M W A1 c1 x.New
  len := fun ⟨A0, c0, A1, c1, h, _⟩ => by rw [h]; rfl
  one := fun ⟨A0, c0, A1, c1, h, _⟩ => by rw [h]; exact Tundo_Patch.enc_one _ _ _ _ _
  st := fun ⟨A0, c0, A1, c1, h, h0, h1⟩ s => ⟨A0, c0, A1, c1, h, h0.st s, h1.st s⟩
structure AL3_26 where
  e0 : List TRule
  e1 : List TRule
  e2 : List TRule
def AL3_26.zero : AL3_26 := { e0 := [], e1 := [], e2 := [] }
def AL3_26.enc (x : AL3_26) (A0 : Option Addr) (c0 : Nat) (A1 : Option Addr) (c1 : Nat) (A2 : Option Addr) (c2 : Nat) : List Go.Value := [.slice A0 (x.e0).length c0, .slice A1 (x.e1).length c1, .slice A2 (x.e2).length c2]
theorem AL3_26.enc_one (x : AL3_26) (A0 : Option Addr) (c0 : Nat) (A1 : Option Addr) (c1 : Nat) (A2 : Option Addr) (c2 : Nat) : ∀ u ∈ AL3_26.enc x A0 c0 A1 c1 A2 c2, u.oneCell' = true := allOne (by simp [AL3_26.enc, Go.Value.oneCell'])
def k_AL3_26 : Kd AL3_26 where
  sz := 3
  R := fun M W cs x => ∃ A0 c0 A1 c1 A2 c2, cs = AL3_26.enc x A0 c0 A1 c1 A2 c2 ∧ SlR k_TRule M W A0 c0 x.e0 ∧ SlR k_TRule M W A1 c1 x.e1 ∧ SlR k_TRule M W A2 c2 x.e2
  len := fun ⟨A0, c0, A1, c1, A2, c2, h, _⟩ => by rw [h]; rfl
  one := fun ⟨A0, c0, A1, c1, A2, c2, h, _⟩ => by rw [h]; exact AL3_26.enc_one _ _ _ _ _ _ _
  st := fun ⟨A0, c0, A1, c1, A2, c2, h, h0, h1, h2⟩ s => ⟨A0, c0, A1, c1, A2, c2, h, h0.st s, h1.st s, h2.st s⟩
def AL3_26.at (x : AL3_26) (i : Int) : List TRule := ui i 0 x.e0 (ui i 1 x.e1 (x.e2))
def AL3_26.upd (x : AL3_26) (i : Int) (v : List TRule) : AL3_26 := { e0 := ui i 0 v x.e0, e1 := ui i 1 v x.e1, e2 := ui i 2 v x.e2 }
theorem AL3_26.get (x : AL3_26) (A0 : Option Addr) (c0 : Nat) (A1 : Option Addr) (c1 : Nat) (A2 : Option Addr) (c2 : Nat) (i : Int) (h0 : 0 ≤ i) (h1 : i < 3) : ((AL3_26.enc x A0 c0 A1 c1 A2 c2).drop (i.toNat * 1)).take 1 = [.slice (ui i 0 A0 (ui i 1 A1 (A2))) (x.at i).length (ui i 0 c0 (ui i 1 c1 (c2)))] := by
  obtain ⟨n, rfl⟩ := Int.eq_ofNat_of_zero_le h0
  match n, h1 with
  | 0, _ => rfl
  | 1, _ => rfl
  | 2, _ => rfl
theorem AL3_26.set (x : AL3_26) (A0 : Option Addr) (c0 : Nat) (A1 : Option Addr) (c1 : Nat) (A2 : Option Addr) (c2 : Nat) (i : Int) (v : List TRule) (A : Option Addr) (c : Nat) (h0 : 0 ≤ i) (h1 : i < 3) : (AL3_26.enc x A0 c0 A1 c1 A2 c2).take (i.toNat * 1) ++ [.slice A v.length c] ++ (AL3_26.enc x A0 c0 A1 c1 A2 c2).drop (i.toNat * 1 + 1) = AL3_26.enc (x.upd i v) (ui i 0 A A0) (ui i 0 c c0) (ui i 1 A A1) (ui i 1 c c1) (ui i 2 A A2) (ui i 2 c c2) := by
  obtain ⟨n, rfl⟩ := Int.eq_ofNat_of_zero_le h0
  match n, h1 with
  | 0, _ => rfl
  | 1, _ => rfl
  | 2, _ => rfl
theorem AL3_26.sl {M : Nat → Prop} {W : World} {x : AL3_26} {A0 : Option Addr} {c0 : Nat} {A1 : Option Addr} {c1 : Nat} {A2 : Option Addr} {c2 : Nat} {i : Int} (h0 : SlR k_TRule M W A0 c0 x.e0) (h1 : SlR k_TRule M W A1 c1 x.e1) (h2 : SlR k_TRule M W A2 c2 x.e2) : SlR k_TRule M W (ui i 0 A0 (ui i 1 A1 (A2))) (ui i 0 c0 (ui i 1 c1 (c2))) (x.at i) := (ui_sl h0 (ui_sl h1 h2))
structure Tpodestalaw22_Act where
  What : Int
  Txn : Int
  L : List TChange
  Unit : Int
  Rule : TRule
def Tpodestalaw22_Act.zero : Tpodestalaw22_Act := { What := 0, Txn := 0, L := [], Unit := 0, Rule := TRule.zero }
def Tpodestalaw22_Act.enc (x : Tpodestalaw22_Act) (A0 : Option Addr) (c0 : Nat) (A1 : Option Addr) (c1 : Nat) : List Go.Value := [.int .i64 (x.What), .int .i64 (x.Txn), .slice A0 (x.L).length c0, .int .i64 (x.Unit), .int .u64 (x.Rule.Match.Value 0), .int .u64 (x.Rule.Match.Value 1), .int .u64 (x.Rule.Match.Value 2), .int .u64 (x.Rule.Match.Value 3), .int .u64 (x.Rule.Match.Value 4), .int .u64 (x.Rule.Match.Value 5), .int .u64 (x.Rule.Match.Value 6), .int .u64 (x.Rule.Match.Value 7), .int .u64 (x.Rule.Match.Value 8), .int .u64 (x.Rule.Match.Value 9), .int .u64 (x.Rule.Match.Value 10), .int .u64 (x.Rule.Match.Value 11), .int .u64 (x.Rule.Match.Care 0), .int .u64 (x.Rule.Match.Care 1), .int .u64 (x.Rule.Match.Care 2), .int .u64 (x.Rule.Match.Care 3), .int .u64 (x.Rule.Match.Care 4), .int .u64 (x.Rule.Match.Care 5), .int .u64 (x.Rule.Match.Care 6), .int .u64 (x.Rule.Match.Care 7), .int .u64 (x.Rule.Match.Care 8), .int .u64 (x.Rule.Match.Care 9), .int .u64 (x.Rule.Match.Care 10), .int .u64 (x.Rule.Match.Care 11), .int .i64 (x.Rule.Prio), .slice A1 (x.Rule.Acts).length c1, .int .i64 (x.Rule.Idle), .int .i64 (x.Rule.Hard), .int .i64 (x.Rule.Owner), .int .i64 (x.Rule.Hits), .int .i64 (x.Rule.Quiet), .int .i64 (x.Rule.Age)]
theorem Tpodestalaw22_Act.enc_one (x : Tpodestalaw22_Act) (A0 : Option Addr) (c0 : Nat) (A1 : Option Addr) (c1 : Nat) : ∀ u ∈ Tpodestalaw22_Act.enc x A0 c0 A1 c1, u.oneCell' = true := allOne (by simp [Tpodestalaw22_Act.enc, Go.Value.oneCell'])
def k_Tpodestalaw22_Act : Kd Tpodestalaw22_Act where
  sz := 36
  R := fun M W cs x => ∃ A0 c0 A1 c1, cs = Tpodestalaw22_Act.enc x A0 c0 A1 c1 ∧ SlR k_TChange M W A0 c0 x.L ∧ SlR k_TAct M W A1 c1 x.Rule.Acts
  len := fun ⟨A0, c0, A1, c1, h, _⟩ => by rw [h]; rfl
  one := fun ⟨A0, c0, A1, c1, h, _⟩ => by rw [h]; exact Tpodestalaw22_Act.enc_one _ _ _ _ _
  st := fun ⟨A0, c0, A1, c1, h, h0, h1⟩ s => ⟨A0, c0, A1, c1, h, h0.st s, h1.st s⟩
structure Tpodestalaw22_open where
  txn : Int
  l : List TChange
def Tpodestalaw22_open.zero : Tpodestalaw22_open := { txn := 0, l := [] }
def Tpodestalaw22_open.enc (x : Tpodestalaw22_open) (A0 : Option Addr) (c0 : Nat) : List Go.Value := [.int .i64 (x.txn), .slice A0 (x.l).length c0]
theorem Tpodestalaw22_open.enc_one (x : Tpodestalaw22_open) (A0 : Option Addr) (c0 : Nat) : ∀ u ∈ Tpodestalaw22_open.enc x A0 c0, u.oneCell' = true := allOne (by simp [Tpodestalaw22_open.enc, Go.Value.oneCell'])
def k_Tpodestalaw22_open : Kd Tpodestalaw22_open where
  sz := 2
  R := fun M W cs x => ∃ A0 c0, cs = Tpodestalaw22_open.enc x A0 c0 ∧ SlR k_TChange M W A0 c0 x.l
  len := fun ⟨A0, c0, h, _⟩ => by rw [h]; rfl
  one := fun ⟨A0, c0, h, _⟩ => by rw [h]; exact Tpodestalaw22_open.enc_one _ _ _
  st := fun ⟨A0, c0, h, h0⟩ s => ⟨A0, c0, h, h0.st s⟩
def Tshadow_Shadow.setopen (x : Tshadow_Shadow) (v : List Tshadow_open) : Tshadow_Shadow := { x with open_ := v }
def TMod.setActs (x : TMod) (v : List TAct) : TMod := { x with Acts := v }
def TCube.setCare (x : TCube) (v : Arr 12) : TCube := { x with Care := v }
def TRule.setActs (x : TRule) (v : List TAct) : TRule := { x with Acts := v }
def TCube.setValue (x : TCube) (v : Arr 12) : TCube := { x with Value := v }
def Tshadow_Shadow.setbase (x : Tshadow_Shadow) (v : List (List TRule)) : Tshadow_Shadow := { x with base := v }
theorem TCube.get_Care (x : TCube) (i : Int) (h0 : 0 ≤ i) (h1 : i < 12) : ((TCube.enc x).drop (12 + i.toNat * 1)).take 1 = [.int .u64 ((x.Care).at i)] := by
  obtain ⟨n, rfl⟩ := Int.eq_ofNat_of_zero_le h0
  match n, h1 with
  | 0, _ => rfl
  | 1, _ => rfl
  | 2, _ => rfl
  | 3, _ => rfl
  | 4, _ => rfl
  | 5, _ => rfl
  | 6, _ => rfl
  | 7, _ => rfl
  | 8, _ => rfl
  | 9, _ => rfl
  | 10, _ => rfl
  | 11, _ => rfl
theorem TCube.set_Care (x : TCube) (i v : Int) (h0 : 0 ≤ i) (h1 : i < 12) : (TCube.enc x).take (12 + i.toNat * 1) ++ [.int .u64 v] ++ (TCube.enc x).drop (12 + i.toNat * 1 + 1) = TCube.enc ({ x with Care := (x.Care).upd i v }) := by
  obtain ⟨n, rfl⟩ := Int.eq_ofNat_of_zero_le h0
  match n, h1 with
  | 0, _ => rfl
  | 1, _ => rfl
  | 2, _ => rfl
  | 3, _ => rfl
  | 4, _ => rfl
  | 5, _ => rfl
  | 6, _ => rfl
  | 7, _ => rfl
  | 8, _ => rfl
  | 9, _ => rfl
  | 10, _ => rfl
  | 11, _ => rfl
theorem TCube.get_Value (x : TCube) (i : Int) (h0 : 0 ≤ i) (h1 : i < 12) : ((TCube.enc x).drop (0 + i.toNat * 1)).take 1 = [.int .u64 ((x.Value).at i)] := by
  obtain ⟨n, rfl⟩ := Int.eq_ofNat_of_zero_le h0
  match n, h1 with
  | 0, _ => rfl
  | 1, _ => rfl
  | 2, _ => rfl
  | 3, _ => rfl
  | 4, _ => rfl
  | 5, _ => rfl
  | 6, _ => rfl
  | 7, _ => rfl
  | 8, _ => rfl
  | 9, _ => rfl
  | 10, _ => rfl
  | 11, _ => rfl
theorem TCube.set_Value (x : TCube) (i v : Int) (h0 : 0 ≤ i) (h1 : i < 12) : (TCube.enc x).take (0 + i.toNat * 1) ++ [.int .u64 v] ++ (TCube.enc x).drop (0 + i.toNat * 1 + 1) = TCube.enc ({ x with Value := (x.Value).upd i v }) := by
  obtain ⟨n, rfl⟩ := Int.eq_ofNat_of_zero_le h0
  match n, h1 with
  | 0, _ => rfl
  | 1, _ => rfl
  | 2, _ => rfl
  | 3, _ => rfl
  | 4, _ => rfl
  | 5, _ => rfl
  | 6, _ => rfl
  | 7, _ => rfl
  | 8, _ => rfl
  | 9, _ => rfl
  | 10, _ => rfl
  | 11, _ => rfl
end Go.Proofs.YtgfnkigoaajllaaGreat
