/-
  No cell of these rows narrows 'for every input' (looked for: loops, veiled, ifaces, maps, wideKeys, modest, calm, conditions, laid).
  DERIVED. THE GIVEN ROWS OF THIS SEAT. 8 by the template 'for every input the law returns true; each argument reads behind the call as it read before'; 0 by the template 'total and deterministic' (their statements: YtgfnkigoaajllaaGreatTotals.lean).
  GIVEN WITH THE SEED: the statements are not yours to turn. If you find one false, say at which input.
  Laid BY PROGRAM, IN A SANDBOX (cutbox-rows.mjs): the forced cells as the released guide's own fill.sh prints them over the translation d3e33c0cf006ff1d… (all of the seat's roots in one cut). By AI agents, Wed Nov 11 2026. No macro, syntax, notation, axiom, sorry.
-/
import Derived.Test.YtgfnkigoaajllaaGreatChecked
import GoSem.Claim
import GoSem.ClaimJoined
import GoSem.ClaimMapViews
import Derived.JoinedTies
import Derived.KernelRfl
namespace Go.Proofs.YtgfnkigoaajllaaGreat
/- THE CELL 'sum', in the pinned program and in every row, IS THE sha256 OF THE DUMP (.gsa) THAT YtgfnkigoaajllaaGreatProg.lean LOADS. Nothing in Lean hashes anything: it is a label: what it is worth is what the hold of that sum in a sandbox is worth. -/
noncomputable def Tryz.pinned : Pinned := { name := "ytgfnkigoaajllaagreat", sum := "d3e33c0cf006ff1dc0be997ace9bd12c210046eb55b410548f07aad09381f8f3", checked := Tryz.checked }
namespace Rows
def none {H : Type} : Left H := { results := [], args := [] }

/-- 'podestalaw22.ShadowSteps': WHATEVER THE INPUT: true; the input reads as it did. -/
def shadowStepsSpec : ChangeSpec := { name := "shadowSteps", fn := fun _ => fun
  | [d] => { results := [.lit (.bool true)], args := [d] }
  | _ => none }
def shadowStepsRow : OpenClaim := { program := "ytgfnkigoaajllaagreat", sum := "d3e33c0cf006ff1dc0be997ace9bd12c210046eb55b410548f07aad09381f8f3", func := "podesta/podestalaw22.ShadowSteps", spec := "shadowSteps", inPlace := ["slices.overlaps[podesta/api.Rule]"], unfollowed := true, recurses := true, plainKeys := false, apart := false }
def ShadowStepsSaid : Prop := shadowStepsRow.holds Tryz.pinned (OpenSpec.ofChange shadowStepsSpec)

/-- ITS FALSE NEIGHBOUR: 'it returns false'. Refute it at one input. -/
def shadowStepsWrong : ChangeSpec := { name := "shadowSteps", fn := fun _ => fun
  | [d] => { results := [.lit (.bool false)], args := [d] }
  | _ => none }
def ShadowStepsWrongFalsely : Prop := shadowStepsRow.holds Tryz.pinned (OpenSpec.ofChange shadowStepsWrong)

/-- 'podestalaw22.ShadowPlays': WHATEVER THE INPUT: true; the input reads as it did. -/
def shadowPlaysSpec : ChangeSpec := { name := "shadowPlays", fn := fun _ => fun
  | [d1, d2] => { results := [.lit (.bool true)], args := [d1, d2] }
  | _ => none }
def shadowPlaysRow : OpenClaim := { program := "ytgfnkigoaajllaagreat", sum := "d3e33c0cf006ff1dc0be997ace9bd12c210046eb55b410548f07aad09381f8f3", func := "podesta/podestalaw22.ShadowPlays", spec := "shadowPlays", inPlace := ["slices.overlaps[podesta/api.Rule]"], unfollowed := true, recurses := true, plainKeys := false, apart := false }
def ShadowPlaysSaid : Prop := shadowPlaysRow.holds Tryz.pinned (OpenSpec.ofChange shadowPlaysSpec)

/-- ITS FALSE NEIGHBOUR: 'it returns false'. Refute it at one input. -/
def shadowPlaysWrong : ChangeSpec := { name := "shadowPlays", fn := fun _ => fun
  | [d1, d2] => { results := [.lit (.bool false)], args := [d1, d2] }
  | _ => none }
def ShadowPlaysWrongFalsely : Prop := shadowPlaysRow.holds Tryz.pinned (OpenSpec.ofChange shadowPlaysWrong)

/-- 'podestalaw13.UnitCommits': WHATEVER THE INPUT: true; the input reads as it did. -/
def unitCommitsSpec : ChangeSpec := { name := "unitCommits", fn := fun _ => fun
  | [d1, d2] => { results := [.lit (.bool true)], args := [d1, d2] }
  | _ => none }
def unitCommitsRow : OpenClaim := { program := "ytgfnkigoaajllaagreat", sum := "d3e33c0cf006ff1dc0be997ace9bd12c210046eb55b410548f07aad09381f8f3", func := "podesta/podestalaw13.UnitCommits", spec := "unitCommits", inPlace := ["slices.overlaps[podesta/api.Rule]"], unfollowed := true, recurses := true, plainKeys := false, apart := false }
def UnitCommitsSaid : Prop := unitCommitsRow.holds Tryz.pinned (OpenSpec.ofChange unitCommitsSpec)

/-- ITS FALSE NEIGHBOUR: 'it returns false'. Refute it at one input. -/
def unitCommitsWrong : ChangeSpec := { name := "unitCommits", fn := fun _ => fun
  | [d1, d2] => { results := [.lit (.bool false)], args := [d1, d2] }
  | _ => none }
def UnitCommitsWrongFalsely : Prop := unitCommitsRow.holds Tryz.pinned (OpenSpec.ofChange unitCommitsWrong)

/-- 'podestalaw13.UnitAsks': WHATEVER THE INPUT: true; the input reads as it did. -/
def unitAsksSpec : ChangeSpec := { name := "unitAsks", fn := fun _ => fun
  | [d1, d2] => { results := [.lit (.bool true)], args := [d1, d2] }
  | _ => none }
def unitAsksRow : OpenClaim := { program := "ytgfnkigoaajllaagreat", sum := "d3e33c0cf006ff1dc0be997ace9bd12c210046eb55b410548f07aad09381f8f3", func := "podesta/podestalaw13.UnitAsks", spec := "unitAsks", inPlace := ["slices.overlaps[podesta/api.Rule]"], unfollowed := true, recurses := true, plainKeys := false, apart := false }
def UnitAsksSaid : Prop := unitAsksRow.holds Tryz.pinned (OpenSpec.ofChange unitAsksSpec)

/-- ITS FALSE NEIGHBOUR: 'it returns false'. Refute it at one input. -/
def unitAsksWrong : ChangeSpec := { name := "unitAsks", fn := fun _ => fun
  | [d1, d2] => { results := [.lit (.bool false)], args := [d1, d2] }
  | _ => none }
def UnitAsksWrongFalsely : Prop := unitAsksRow.holds Tryz.pinned (OpenSpec.ofChange unitAsksWrong)

/-- 'podestalaw13.UnitPlays': WHATEVER THE INPUT: true; the input reads as it did. -/
def unitPlaysSpec : ChangeSpec := { name := "unitPlays", fn := fun _ => fun
  | [d1, d2] => { results := [.lit (.bool true)], args := [d1, d2] }
  | _ => none }
def unitPlaysRow : OpenClaim := { program := "ytgfnkigoaajllaagreat", sum := "d3e33c0cf006ff1dc0be997ace9bd12c210046eb55b410548f07aad09381f8f3", func := "podesta/podestalaw13.UnitPlays", spec := "unitPlays", inPlace := ["slices.overlaps[podesta/api.Rule]"], unfollowed := true, recurses := true, plainKeys := false, apart := false }
def UnitPlaysSaid : Prop := unitPlaysRow.holds Tryz.pinned (OpenSpec.ofChange unitPlaysSpec)

/-- ITS FALSE NEIGHBOUR: 'it returns false'. Refute it at one input. -/
def unitPlaysWrong : ChangeSpec := { name := "unitPlays", fn := fun _ => fun
  | [d1, d2] => { results := [.lit (.bool false)], args := [d1, d2] }
  | _ => none }
def UnitPlaysWrongFalsely : Prop := unitPlaysRow.holds Tryz.pinned (OpenSpec.ofChange unitPlaysWrong)

/-- 'podestalaw13.UnitRoom': WHATEVER THE INPUT: true; the input reads as it did. -/
def unitRoomSpec : ChangeSpec := { name := "unitRoom", fn := fun _ => fun
  | [d1, d2] => { results := [.lit (.bool true)], args := [d1, d2] }
  | _ => none }
def unitRoomRow : OpenClaim := { program := "ytgfnkigoaajllaagreat", sum := "d3e33c0cf006ff1dc0be997ace9bd12c210046eb55b410548f07aad09381f8f3", func := "podesta/podestalaw13.UnitRoom", spec := "unitRoom", inPlace := ["slices.overlaps[podesta/api.Rule]"], unfollowed := true, recurses := true, plainKeys := false, apart := false }
def UnitRoomSaid : Prop := unitRoomRow.holds Tryz.pinned (OpenSpec.ofChange unitRoomSpec)

/-- ITS FALSE NEIGHBOUR: 'it returns false'. Refute it at one input. -/
def unitRoomWrong : ChangeSpec := { name := "unitRoom", fn := fun _ => fun
  | [d1, d2] => { results := [.lit (.bool false)], args := [d1, d2] }
  | _ => none }
def UnitRoomWrongFalsely : Prop := unitRoomRow.holds Tryz.pinned (OpenSpec.ofChange unitRoomWrong)

/-- 'podestalaw14.NetPackets': WHATEVER THE INPUT: true; the input reads as it did. -/
def netPacketsSpec : ChangeSpec := { name := "netPackets", fn := fun _ => fun
  | [d1, d2, d3, d4] => { results := [.lit (.bool true)], args := [d1, d2, d3, d4] }
  | _ => none }
def netPacketsRow : OpenClaim := { program := "ytgfnkigoaajllaagreat", sum := "d3e33c0cf006ff1dc0be997ace9bd12c210046eb55b410548f07aad09381f8f3", func := "podesta/podestalaw14.NetPackets", spec := "netPackets", inPlace := ["slices.overlaps[podesta/api.Rule]"], unfollowed := true, recurses := true, plainKeys := false, apart := false }
def NetPacketsSaid : Prop := netPacketsRow.holds Tryz.pinned (OpenSpec.ofChange netPacketsSpec)

/-- ITS FALSE NEIGHBOUR: 'it returns false'. Refute it at one input. -/
def netPacketsWrong : ChangeSpec := { name := "netPackets", fn := fun _ => fun
  | [d1, d2, d3, d4] => { results := [.lit (.bool false)], args := [d1, d2, d3, d4] }
  | _ => none }
def NetPacketsWrongFalsely : Prop := netPacketsRow.holds Tryz.pinned (OpenSpec.ofChange netPacketsWrong)

/-- 'podestalaw23.TxnOlder': WHATEVER THE INPUT: true; the input reads as it did. -/
def txnOlderSpec : ChangeSpec := { name := "txnOlder", fn := fun _ => fun
  | [d1, d2] => { results := [.lit (.bool true)], args := [d1, d2] }
  | _ => none }
def txnOlderRow : OpenClaim := { program := "ytgfnkigoaajllaagreat", sum := "d3e33c0cf006ff1dc0be997ace9bd12c210046eb55b410548f07aad09381f8f3", func := "podesta/podestalaw23.TxnOlder", spec := "txnOlder", inPlace := ["slices.overlaps[podesta/api.Rule]"], unfollowed := true, recurses := true, plainKeys := false, apart := false }
def TxnOlderSaid : Prop := txnOlderRow.holds Tryz.pinned (OpenSpec.ofChange txnOlderSpec)

/-- ITS FALSE NEIGHBOUR: 'it returns false'. Refute it at one input. -/
def txnOlderWrong : ChangeSpec := { name := "txnOlder", fn := fun _ => fun
  | [d1, d2] => { results := [.lit (.bool false)], args := [d1, d2] }
  | _ => none }
def TxnOlderWrongFalsely : Prop := txnOlderRow.holds Tryz.pinned (OpenSpec.ofChange txnOlderWrong)

/- THE SECOND FORM. 'bulk': how many values and letters a reading holds, each counted each time it is reached (what is shared counts as often as it is met; a slice's spare places count too). A statement '..UptoSaid' is the law's where the arguments, and the package variables that the reading takes, are together of bulk at most 1048576: NARROWER than '..Said'. Prove '..Said' where nothing that the law and all that it calls make is longer than what came in: it says more and counts as full. Else prove '..UptoSaid'. A law counts once. -/
mutual
def uptoBulk {H : Type} : DataW H → Nat
  | .lit (.string bytes) => bytes.length + 1
  | .lit _ => 1
  | .nil => 1
  | .ptr d => uptoBulk d + 1
  | .slice elems spare => uptoBulkAll elems + uptoBulkAll spare + 1
  | .agg parts => uptoBulkAll parts + 1
  | .iface _ d => uptoBulk d + 1
  | .map entries => uptoBulkEntries entries + 1
  | .held _ => 1
def uptoBulkAll {H : Type} : List (DataW H) → Nat
  | [] => 0
  | d :: r => uptoBulk d + uptoBulkAll r
def uptoBulkEntries {H : Type} : List (Lit × DataW H) → Nat
  | [] => 0
  | x :: r => uptoBulkEntry x + uptoBulkEntries r
def uptoBulkEntry {H : Type} : Lit × DataW H → Nat
  | (.string bytes, d) => bytes.length + uptoBulk d + 1
  | (_, d) => uptoBulk d + 1
 end
def uptoSmall : (H : Type) → List (DataW H) → Bool := fun _ ds => decide (uptoBulkAll ds ≤ 1048576)
def OpenSpec.upto (s : _root_.Go.ChangeSpec) : _root_.Go.OpenSpec := { _root_.Go.OpenSpec.ofChange s with cond := some uptoSmall }

/-- 'podestalaw22.ShadowSteps', WHERE WHAT IT READS IS OF BULK AT MOST 1048576: true; the input reads as it did. -/
def shadowStepsUptoRow : OpenClaim := { program := "ytgfnkigoaajllaagreat", sum := "d3e33c0cf006ff1dc0be997ace9bd12c210046eb55b410548f07aad09381f8f3", func := "podesta/podestalaw22.ShadowSteps", spec := "shadowSteps", inPlace := ["slices.overlaps[podesta/api.Rule]"], unfollowed := true, recurses := true, plainKeys := false, apart := false, narrowed := true }
def ShadowStepsUptoSaid : Prop := shadowStepsUptoRow.holds Tryz.pinned (OpenSpec.upto shadowStepsSpec)

/-- 'podestalaw22.ShadowPlays', WHERE WHAT IT READS IS OF BULK AT MOST 1048576: true; the input reads as it did. -/
def shadowPlaysUptoRow : OpenClaim := { program := "ytgfnkigoaajllaagreat", sum := "d3e33c0cf006ff1dc0be997ace9bd12c210046eb55b410548f07aad09381f8f3", func := "podesta/podestalaw22.ShadowPlays", spec := "shadowPlays", inPlace := ["slices.overlaps[podesta/api.Rule]"], unfollowed := true, recurses := true, plainKeys := false, apart := false, narrowed := true }
def ShadowPlaysUptoSaid : Prop := shadowPlaysUptoRow.holds Tryz.pinned (OpenSpec.upto shadowPlaysSpec)

/-- 'podestalaw13.UnitCommits', WHERE WHAT IT READS IS OF BULK AT MOST 1048576: true; the input reads as it did. -/
def unitCommitsUptoRow : OpenClaim := { program := "ytgfnkigoaajllaagreat", sum := "d3e33c0cf006ff1dc0be997ace9bd12c210046eb55b410548f07aad09381f8f3", func := "podesta/podestalaw13.UnitCommits", spec := "unitCommits", inPlace := ["slices.overlaps[podesta/api.Rule]"], unfollowed := true, recurses := true, plainKeys := false, apart := false, narrowed := true }
def UnitCommitsUptoSaid : Prop := unitCommitsUptoRow.holds Tryz.pinned (OpenSpec.upto unitCommitsSpec)

/-- 'podestalaw13.UnitAsks', WHERE WHAT IT READS IS OF BULK AT MOST 1048576: true; the input reads as it did. -/
def unitAsksUptoRow : OpenClaim := { program := "ytgfnkigoaajllaagreat", sum := "d3e33c0cf006ff1dc0be997ace9bd12c210046eb55b410548f07aad09381f8f3", func := "podesta/podestalaw13.UnitAsks", spec := "unitAsks", inPlace := ["slices.overlaps[podesta/api.Rule]"], unfollowed := true, recurses := true, plainKeys := false, apart := false, narrowed := true }
def UnitAsksUptoSaid : Prop := unitAsksUptoRow.holds Tryz.pinned (OpenSpec.upto unitAsksSpec)

/-- 'podestalaw13.UnitPlays', WHERE WHAT IT READS IS OF BULK AT MOST 1048576: true; the input reads as it did. -/
def unitPlaysUptoRow : OpenClaim := { program := "ytgfnkigoaajllaagreat", sum := "d3e33c0cf006ff1dc0be997ace9bd12c210046eb55b410548f07aad09381f8f3", func := "podesta/podestalaw13.UnitPlays", spec := "unitPlays", inPlace := ["slices.overlaps[podesta/api.Rule]"], unfollowed := true, recurses := true, plainKeys := false, apart := false, narrowed := true }
def UnitPlaysUptoSaid : Prop := unitPlaysUptoRow.holds Tryz.pinned (OpenSpec.upto unitPlaysSpec)

/-- 'podestalaw13.UnitRoom', WHERE WHAT IT READS IS OF BULK AT MOST 1048576: true; the input reads as it did. -/
def unitRoomUptoRow : OpenClaim := { program := "ytgfnkigoaajllaagreat", sum := "d3e33c0cf006ff1dc0be997ace9bd12c210046eb55b410548f07aad09381f8f3", func := "podesta/podestalaw13.UnitRoom", spec := "unitRoom", inPlace := ["slices.overlaps[podesta/api.Rule]"], unfollowed := true, recurses := true, plainKeys := false, apart := false, narrowed := true }
def UnitRoomUptoSaid : Prop := unitRoomUptoRow.holds Tryz.pinned (OpenSpec.upto unitRoomSpec)

/-- 'podestalaw14.NetPackets', WHERE WHAT IT READS IS OF BULK AT MOST 1048576: true; the input reads as it did. -/
def netPacketsUptoRow : OpenClaim := { program := "ytgfnkigoaajllaagreat", sum := "d3e33c0cf006ff1dc0be997ace9bd12c210046eb55b410548f07aad09381f8f3", func := "podesta/podestalaw14.NetPackets", spec := "netPackets", inPlace := ["slices.overlaps[podesta/api.Rule]"], unfollowed := true, recurses := true, plainKeys := false, apart := false, narrowed := true }
def NetPacketsUptoSaid : Prop := netPacketsUptoRow.holds Tryz.pinned (OpenSpec.upto netPacketsSpec)

/-- 'podestalaw23.TxnOlder', WHERE WHAT IT READS IS OF BULK AT MOST 1048576: true; the input reads as it did. -/
def txnOlderUptoRow : OpenClaim := { program := "ytgfnkigoaajllaagreat", sum := "d3e33c0cf006ff1dc0be997ace9bd12c210046eb55b410548f07aad09381f8f3", func := "podesta/podestalaw23.TxnOlder", spec := "txnOlder", inPlace := ["slices.overlaps[podesta/api.Rule]"], unfollowed := true, recurses := true, plainKeys := false, apart := false, narrowed := true }
def TxnOlderUptoSaid : Prop := txnOlderUptoRow.holds Tryz.pinned (OpenSpec.upto txnOlderSpec)

end Rows
end Go.Proofs.YtgfnkigoaajllaaGreat
