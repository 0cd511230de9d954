/-
  No cell of these rows narrows 'for every input' (looked for: loops, veiled, ifaces, maps, wideKeys, modest, calm, conditions, laid).
  DERIVED. THE GIVEN ROWS OF THIS SEAT. 9 by the template 'for every input the law returns true; each argument reads behind the call as it read before'; 0 by the template 'total and deterministic' (their statements: YtangebngeeamoaaTotals.lean).
  GIVEN WITH THE SEED: the statements are not yours to turn. If you find one false, say at which input.
  Laid BY PROGRAM, IN A SANDBOX (cutbox-rows.mjs): the forced cells as the released guide's own fill.sh prints them over the translation ee64ff086fb81f8f… (all of the seat's roots in one cut). By AI agents, Wed Nov 11 2026. No macro, syntax, notation, axiom, sorry.
-/
import Derived.Test.YtangebngeeamoaaChecked
import GoSem.Claim
import GoSem.ClaimJoined
import GoSem.ClaimMapViews
import Derived.JoinedTies
import Derived.KernelRfl
namespace Go.Proofs.Ytangebngeeamoaa
/- THE CELL 'sum', in the pinned program and in every row, IS THE sha256 OF THE DUMP (.gsa) THAT YtangebngeeamoaaProg.lean LOADS. Nothing in Lean hashes anything: it is a label: what it is worth is what the hold of that sum in a sandbox is worth. -/
noncomputable def Try.pinned : Pinned := { name := "ytangebngeeamoaa", sum := "ee64ff086fb81f8f7c1b1c0c65655b66f7db41b3796df3d602580fa74ae416ca", checked := Try.checked }
namespace Rows
def none {H : Type} : Left H := { results := [], args := [] }

/-- 'podestalaw02.CubeSets': WHATEVER THE INPUT: true; the input reads as it did. -/
def cubeSetsSpec : ChangeSpec := { name := "cubeSets", fn := fun _ => fun
  | [d1, d2, d3] => { results := [.lit (.bool true)], args := [d1, d2, d3] }
  | _ => none }
def cubeSetsRow : OpenClaim := { program := "ytangebngeeamoaa", sum := "ee64ff086fb81f8f7c1b1c0c65655b66f7db41b3796df3d602580fa74ae416ca", func := "podesta/podestalaw02.CubeSets", spec := "cubeSets", apart := false }
def CubeSetsSaid : Prop := cubeSetsRow.holds Try.pinned (OpenSpec.ofChange cubeSetsSpec)

/-- ITS FALSE NEIGHBOUR: 'it returns false'. Refute it at one input. -/
def cubeSetsWrong : ChangeSpec := { name := "cubeSets", fn := fun _ => fun
  | [d1, d2, d3] => { results := [.lit (.bool false)], args := [d1, d2, d3] }
  | _ => none }
def CubeSetsWrongFalsely : Prop := cubeSetsRow.holds Try.pinned (OpenSpec.ofChange cubeSetsWrong)

/-- 'podestalaw07.ModsApply': WHATEVER THE INPUT: true; the input reads as it did. -/
def modsApplySpec : ChangeSpec := { name := "modsApply", fn := fun _ => fun
  | [d1, d2, d3] => { results := [.lit (.bool true)], args := [d1, d2, d3] }
  | _ => none }
def modsApplyRow : OpenClaim := { program := "ytangebngeeamoaa", sum := "ee64ff086fb81f8f7c1b1c0c65655b66f7db41b3796df3d602580fa74ae416ca", func := "podesta/podestalaw07.ModsApply", spec := "modsApply", inPlace := ["slices.overlaps[podesta/api.Rule]"], unfollowed := true, recurses := true, apart := false }
def ModsApplySaid : Prop := modsApplyRow.holds Try.pinned (OpenSpec.ofChange modsApplySpec)

/-- ITS FALSE NEIGHBOUR: 'it returns false'. Refute it at one input. -/
def modsApplyWrong : ChangeSpec := { name := "modsApply", fn := fun _ => fun
  | [d1, d2, d3] => { results := [.lit (.bool false)], args := [d1, d2, d3] }
  | _ => none }
def ModsApplyWrongFalsely : Prop := modsApplyRow.holds Try.pinned (OpenSpec.ofChange modsApplyWrong)

/-- 'podestalaw08.UndoChanges': WHATEVER THE INPUT: true; the input reads as it did. -/
def undoChangesSpec : ChangeSpec := { name := "undoChanges", fn := fun _ => fun
  | [d1, d2, d3] => { results := [.lit (.bool true)], args := [d1, d2, d3] }
  | _ => none }
def undoChangesRow : OpenClaim := { program := "ytangebngeeamoaa", sum := "ee64ff086fb81f8f7c1b1c0c65655b66f7db41b3796df3d602580fa74ae416ca", func := "podesta/podestalaw08.UndoChanges", spec := "undoChanges", inPlace := ["slices.overlaps[podesta/api.Rule]"], unfollowed := true, recurses := true, apart := false }
def UndoChangesSaid : Prop := undoChangesRow.holds Try.pinned (OpenSpec.ofChange undoChangesSpec)

/-- ITS FALSE NEIGHBOUR: 'it returns false'. Refute it at one input. -/
def undoChangesWrong : ChangeSpec := { name := "undoChanges", fn := fun _ => fun
  | [d1, d2, d3] => { results := [.lit (.bool false)], args := [d1, d2, d3] }
  | _ => none }
def UndoChangesWrongFalsely : Prop := undoChangesRow.holds Try.pinned (OpenSpec.ofChange undoChangesWrong)

/-- 'podestalaw19.RegionHolds': WHATEVER THE INPUT: true; the input reads as it did. -/
def regionHoldsSpec : ChangeSpec := { name := "regionHolds", fn := fun _ => fun
  | [d1, d2] => { results := [.lit (.bool true)], args := [d1, d2] }
  | _ => none }
def regionHoldsRow : OpenClaim := { program := "ytangebngeeamoaa", sum := "ee64ff086fb81f8f7c1b1c0c65655b66f7db41b3796df3d602580fa74ae416ca", func := "podesta/podestalaw19.RegionHolds", spec := "regionHolds", unfollowed := true, recurses := true, apart := false }
def RegionHoldsSaid : Prop := regionHoldsRow.holds Try.pinned (OpenSpec.ofChange regionHoldsSpec)

/-- ITS FALSE NEIGHBOUR: 'it returns false'. Refute it at one input. -/
def regionHoldsWrong : ChangeSpec := { name := "regionHolds", fn := fun _ => fun
  | [d1, d2] => { results := [.lit (.bool false)], args := [d1, d2] }
  | _ => none }
def RegionHoldsWrongFalsely : Prop := regionHoldsRow.holds Try.pinned (OpenSpec.ofChange regionHoldsWrong)

/-- 'podestalaw03.SpaceIs': WHATEVER THE INPUT: true; the input reads as it did. -/
def spaceIsSpec : ChangeSpec := { name := "spaceIs", fn := fun _ => fun
  | [d1, d2] => { results := [.lit (.bool true)], args := [d1, d2] }
  | _ => none }
def spaceIsRow : OpenClaim := { program := "ytangebngeeamoaa", sum := "ee64ff086fb81f8f7c1b1c0c65655b66f7db41b3796df3d602580fa74ae416ca", func := "podesta/podestalaw03.SpaceIs", spec := "spaceIs", unfollowed := true, recurses := true, apart := false }
def SpaceIsSaid : Prop := spaceIsRow.holds Try.pinned (OpenSpec.ofChange spaceIsSpec)

/-- ITS FALSE NEIGHBOUR: 'it returns false'. Refute it at one input. -/
def spaceIsWrong : ChangeSpec := { name := "spaceIs", fn := fun _ => fun
  | [d1, d2] => { results := [.lit (.bool false)], args := [d1, d2] }
  | _ => none }
def SpaceIsWrongFalsely : Prop := spaceIsRow.holds Try.pinned (OpenSpec.ofChange spaceIsWrong)

/-- 'podestalaw03.SpaceAll': WHATEVER THE INPUT: true; the input reads as it did. -/
def spaceAllSpec : ChangeSpec := { name := "spaceAll", fn := fun _ => fun
  | [d] => { results := [.lit (.bool true)], args := [d] }
  | _ => none }
def spaceAllRow : OpenClaim := { program := "ytangebngeeamoaa", sum := "ee64ff086fb81f8f7c1b1c0c65655b66f7db41b3796df3d602580fa74ae416ca", func := "podesta/podestalaw03.SpaceAll", spec := "spaceAll", unfollowed := true, recurses := true, apart := false }
def SpaceAllSaid : Prop := spaceAllRow.holds Try.pinned (OpenSpec.ofChange spaceAllSpec)

/-- ITS FALSE NEIGHBOUR: 'it returns false'. Refute it at one input. -/
def spaceAllWrong : ChangeSpec := { name := "spaceAll", fn := fun _ => fun
  | [d] => { results := [.lit (.bool false)], args := [d] }
  | _ => none }
def SpaceAllWrongFalsely : Prop := spaceAllRow.holds Try.pinned (OpenSpec.ofChange spaceAllWrong)

/-- 'podestalaw03.SpaceKeeps': WHATEVER THE INPUT: true; the input reads as it did. -/
def spaceKeepsSpec : ChangeSpec := { name := "spaceKeeps", fn := fun _ => fun
  | [d1, d2] => { results := [.lit (.bool true)], args := [d1, d2] }
  | _ => none }
def spaceKeepsRow : OpenClaim := { program := "ytangebngeeamoaa", sum := "ee64ff086fb81f8f7c1b1c0c65655b66f7db41b3796df3d602580fa74ae416ca", func := "podesta/podestalaw03.SpaceKeeps", spec := "spaceKeeps", unfollowed := true, recurses := true, apart := false }
def SpaceKeepsSaid : Prop := spaceKeepsRow.holds Try.pinned (OpenSpec.ofChange spaceKeepsSpec)

/-- ITS FALSE NEIGHBOUR: 'it returns false'. Refute it at one input. -/
def spaceKeepsWrong : ChangeSpec := { name := "spaceKeeps", fn := fun _ => fun
  | [d1, d2] => { results := [.lit (.bool false)], args := [d1, d2] }
  | _ => none }
def SpaceKeepsWrongFalsely : Prop := spaceKeepsRow.holds Try.pinned (OpenSpec.ofChange spaceKeepsWrong)

/-- 'podestalaw03.SpaceLaws': WHATEVER THE INPUT: true; the input reads as it did. -/
def spaceLawsSpec : ChangeSpec := { name := "spaceLaws", fn := fun _ => fun
  | [d1, d2] => { results := [.lit (.bool true)], args := [d1, d2] }
  | _ => none }
def spaceLawsRow : OpenClaim := { program := "ytangebngeeamoaa", sum := "ee64ff086fb81f8f7c1b1c0c65655b66f7db41b3796df3d602580fa74ae416ca", func := "podesta/podestalaw03.SpaceLaws", spec := "spaceLaws", unfollowed := true, recurses := true, apart := false }
def SpaceLawsSaid : Prop := spaceLawsRow.holds Try.pinned (OpenSpec.ofChange spaceLawsSpec)

/-- ITS FALSE NEIGHBOUR: 'it returns false'. Refute it at one input. -/
def spaceLawsWrong : ChangeSpec := { name := "spaceLaws", fn := fun _ => fun
  | [d1, d2] => { results := [.lit (.bool false)], args := [d1, d2] }
  | _ => none }
def SpaceLawsWrongFalsely : Prop := spaceLawsRow.holds Try.pinned (OpenSpec.ofChange spaceLawsWrong)

/-- 'podestalaw19.RegionOf': WHATEVER THE INPUT: true; the input reads as it did. -/
def regionOfSpec : ChangeSpec := { name := "regionOf", fn := fun _ => fun
  | [d1, d2] => { results := [.lit (.bool true)], args := [d1, d2] }
  | _ => none }
def regionOfRow : OpenClaim := { program := "ytangebngeeamoaa", sum := "ee64ff086fb81f8f7c1b1c0c65655b66f7db41b3796df3d602580fa74ae416ca", func := "podesta/podestalaw19.RegionOf", spec := "regionOf", unfollowed := true, recurses := true, apart := false }
def RegionOfSaid : Prop := regionOfRow.holds Try.pinned (OpenSpec.ofChange regionOfSpec)

/-- ITS FALSE NEIGHBOUR: 'it returns false'. Refute it at one input. -/
def regionOfWrong : ChangeSpec := { name := "regionOf", fn := fun _ => fun
  | [d1, d2] => { results := [.lit (.bool false)], args := [d1, d2] }
  | _ => none }
def RegionOfWrongFalsely : Prop := regionOfRow.holds Try.pinned (OpenSpec.ofChange regionOfWrong)

/- THE SECOND FORM. 'bulk': how many values and letters a reading holds, each counted each time it is reached (what is shared counts as often as it is met; a slice's spare places count too). A statement '..UptoSaid' is the law's where the arguments, and the package variables that the reading takes, are together of bulk at most 1048576: NARROWER than '..Said'. Prove '..Said' where nothing that the law and all that it calls make is longer than what came in: it says more and counts as full. Else prove '..UptoSaid'. A law counts once. -/
mutual
def uptoBulk {H : Type} : DataW H → Nat
  | .lit (.string bytes) => bytes.length + 1
  | .lit _ => 1
  | .nil => 1
  | .ptr d => uptoBulk d + 1
  | .slice elems spare => uptoBulkAll elems + uptoBulkAll spare + 1
  | .agg parts => uptoBulkAll parts + 1
  | .iface _ d => uptoBulk d + 1
  | .map entries => uptoBulkEntries entries + 1
  | .held _ => 1
def uptoBulkAll {H : Type} : List (DataW H) → Nat
  | [] => 0
  | d :: r => uptoBulk d + uptoBulkAll r
def uptoBulkEntries {H : Type} : List (Lit × DataW H) → Nat
  | [] => 0
  | x :: r => uptoBulkEntry x + uptoBulkEntries r
def uptoBulkEntry {H : Type} : Lit × DataW H → Nat
  | (.string bytes, d) => bytes.length + uptoBulk d + 1
  | (_, d) => uptoBulk d + 1
 end
def uptoSmall : (H : Type) → List (DataW H) → Bool := fun _ ds => decide (uptoBulkAll ds ≤ 1048576)
def OpenSpec.upto (s : _root_.Go.ChangeSpec) : _root_.Go.OpenSpec := { _root_.Go.OpenSpec.ofChange s with cond := some uptoSmall }

/-- 'podestalaw02.CubeSets', WHERE WHAT IT READS IS OF BULK AT MOST 1048576: true; the input reads as it did. -/
def cubeSetsUptoRow : OpenClaim := { program := "ytangebngeeamoaa", sum := "ee64ff086fb81f8f7c1b1c0c65655b66f7db41b3796df3d602580fa74ae416ca", func := "podesta/podestalaw02.CubeSets", spec := "cubeSets", apart := false, narrowed := true }
def CubeSetsUptoSaid : Prop := cubeSetsUptoRow.holds Try.pinned (OpenSpec.upto cubeSetsSpec)

/-- 'podestalaw07.ModsApply', WHERE WHAT IT READS IS OF BULK AT MOST 1048576: true; the input reads as it did. -/
def modsApplyUptoRow : OpenClaim := { program := "ytangebngeeamoaa", sum := "ee64ff086fb81f8f7c1b1c0c65655b66f7db41b3796df3d602580fa74ae416ca", func := "podesta/podestalaw07.ModsApply", spec := "modsApply", inPlace := ["slices.overlaps[podesta/api.Rule]"], unfollowed := true, recurses := true, apart := false, narrowed := true }
def ModsApplyUptoSaid : Prop := modsApplyUptoRow.holds Try.pinned (OpenSpec.upto modsApplySpec)

/-- 'podestalaw08.UndoChanges', WHERE WHAT IT READS IS OF BULK AT MOST 1048576: true; the input reads as it did. -/
def undoChangesUptoRow : OpenClaim := { program := "ytangebngeeamoaa", sum := "ee64ff086fb81f8f7c1b1c0c65655b66f7db41b3796df3d602580fa74ae416ca", func := "podesta/podestalaw08.UndoChanges", spec := "undoChanges", inPlace := ["slices.overlaps[podesta/api.Rule]"], unfollowed := true, recurses := true, apart := false, narrowed := true }
def UndoChangesUptoSaid : Prop := undoChangesUptoRow.holds Try.pinned (OpenSpec.upto undoChangesSpec)

/-- 'podestalaw19.RegionHolds', WHERE WHAT IT READS IS OF BULK AT MOST 1048576: true; the input reads as it did. -/
def regionHoldsUptoRow : OpenClaim := { program := "ytangebngeeamoaa", sum := "ee64ff086fb81f8f7c1b1c0c65655b66f7db41b3796df3d602580fa74ae416ca", func := "podesta/podestalaw19.RegionHolds", spec := "regionHolds", unfollowed := true, recurses := true, apart := false, narrowed := true }
def RegionHoldsUptoSaid : Prop := regionHoldsUptoRow.holds Try.pinned (OpenSpec.upto regionHoldsSpec)

/-- 'podestalaw03.SpaceIs', WHERE WHAT IT READS IS OF BULK AT MOST 1048576: true; the input reads as it did. -/
def spaceIsUptoRow : OpenClaim := { program := "ytangebngeeamoaa", sum := "ee64ff086fb81f8f7c1b1c0c65655b66f7db41b3796df3d602580fa74ae416ca", func := "podesta/podestalaw03.SpaceIs", spec := "spaceIs", unfollowed := true, recurses := true, apart := false, narrowed := true }
def SpaceIsUptoSaid : Prop := spaceIsUptoRow.holds Try.pinned (OpenSpec.upto spaceIsSpec)

/-- 'podestalaw03.SpaceAll', WHERE WHAT IT READS IS OF BULK AT MOST 1048576: true; the input reads as it did. -/
def spaceAllUptoRow : OpenClaim := { program := "ytangebngeeamoaa", sum := "ee64ff086fb81f8f7c1b1c0c65655b66f7db41b3796df3d602580fa74ae416ca", func := "podesta/podestalaw03.SpaceAll", spec := "spaceAll", unfollowed := true, recurses := true, apart := false, narrowed := true }
def SpaceAllUptoSaid : Prop := spaceAllUptoRow.holds Try.pinned (OpenSpec.upto spaceAllSpec)

/-- 'podestalaw03.SpaceKeeps', WHERE WHAT IT READS IS OF BULK AT MOST 1048576: true; the input reads as it did. -/
def spaceKeepsUptoRow : OpenClaim := { program := "ytangebngeeamoaa", sum := "ee64ff086fb81f8f7c1b1c0c65655b66f7db41b3796df3d602580fa74ae416ca", func := "podesta/podestalaw03.SpaceKeeps", spec := "spaceKeeps", unfollowed := true, recurses := true, apart := false, narrowed := true }
def SpaceKeepsUptoSaid : Prop := spaceKeepsUptoRow.holds Try.pinned (OpenSpec.upto spaceKeepsSpec)

/-- 'podestalaw03.SpaceLaws', WHERE WHAT IT READS IS OF BULK AT MOST 1048576: true; the input reads as it did. -/
def spaceLawsUptoRow : OpenClaim := { program := "ytangebngeeamoaa", sum := "ee64ff086fb81f8f7c1b1c0c65655b66f7db41b3796df3d602580fa74ae416ca", func := "podesta/podestalaw03.SpaceLaws", spec := "spaceLaws", unfollowed := true, recurses := true, apart := false, narrowed := true }
def SpaceLawsUptoSaid : Prop := spaceLawsUptoRow.holds Try.pinned (OpenSpec.upto spaceLawsSpec)

/-- 'podestalaw19.RegionOf', WHERE WHAT IT READS IS OF BULK AT MOST 1048576: true; the input reads as it did. -/
def regionOfUptoRow : OpenClaim := { program := "ytangebngeeamoaa", sum := "ee64ff086fb81f8f7c1b1c0c65655b66f7db41b3796df3d602580fa74ae416ca", func := "podesta/podestalaw19.RegionOf", spec := "regionOf", unfollowed := true, recurses := true, apart := false, narrowed := true }
def RegionOfUptoSaid : Prop := regionOfUptoRow.holds Try.pinned (OpenSpec.upto regionOfSpec)

end Rows
end Go.Proofs.Ytangebngeeamoaa
