/- Changes and rules that come in are as the laws want them. -/
import Derived.Test.YtgfnkigoaajllaaGreatM1
import Derived.Test.YtgfnkigoaajllaaGreatRG
set_option linter.unusedVariables false
set_option linter.unusedSimpArgs false
set_option maxRecDepth 100000
namespace Go.Proofs.YtgfnkigoaajllaaGreat
open Go.RowKit Go.ChangeShapes Go.WideShapes Go.Pod

theorem U_wf {n : Int} (h : (Lit.int .u64 n).wf = true) : U n := by
  have := bounds_u64 h
  exact ⟨this.1, by omega⟩
theorem rg_of {x : Arr 12} {ws : List Nat} (h : G46 x ws) : RG x := fun i hi => by
  rw [Arr.at_nat _ hi]
  exact U_wf (h ⟨i, hi⟩)
theorem rc_of {c : TCube} {ws : List Nat} (h : G48 c ws) : RC c := ⟨rg_of h.1, rg_of h.2.1⟩
theorem okM_of {m : TMod} {ws : List Nat} {k : Nat} (h : G57 m ws) (hw : ∀ n ∈ ws, n ≤ reachBytes) (hk : m.Acts.length < k) : OkM k m :=
  ⟨rc_of h.2.1, fun a ha => U_wf (h.2.2.2.1.1 a ha).2.2.2.1, hk, h.2.2.2.1.2.1, near_fit h.2.2.2.1.2.2 hw⟩
/-- How long the actions of changes are, all together. -/
def actsLen (cs : List TChange) : Nat := (cs.map fun c => c.Mod.Acts.length).sum
theorem actsLen_le {cs : List TChange} {c : TChange} (h : c ∈ cs) : c.Mod.Acts.length ≤ actsLen cs := le_sum (fun c : TChange => c.Mod.Acts.length) h
end Go.Proofs.YtgfnkigoaajllaaGreat
