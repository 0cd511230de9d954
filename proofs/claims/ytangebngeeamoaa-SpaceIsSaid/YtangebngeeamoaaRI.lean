/- SpaceIs: the law's row. -/
import Derived.Test.YtangebngeeamoaaR0
import Derived.Test.YtangebngeeamoaaW9
set_option linter.unusedVariables false
set_option linter.unusedSimpArgs false
set_option maxRecDepth 100000
namespace Go.Proofs.Ytangebngeeamoaa
open Go.RowKit Go.ChangeShapes Go.WideShapes Go.Pod

theorem SpaceIs_lifted (os : Os) (started : os.Started) (H : Type) (enc : TypeId × Value → H) :
    ReturnsInHanded {} Try.checked os 7 .any (Rows.spaceIsSpec.pre6 enc Try.prog Try.f7 Rows.spaceIsRow.domain false) (Rows.spaceIsSpec.post enc Try.prog Try.f7 false true false false) := by
  refine returnsInHanded_of_change (C := Try.checked) Try.own started (by kernel_rfl) Try.func7
    (ChangeSpec.witness6 (enc := enc) (C := Try.checked) false ⟨#[], #[.slice none 0 0, .agg (Array.replicate 12 (.int .u64 0))], []⟩ 8 (by kernel_rfl) (by kernel_rfl) (by kernel_rfl) (by kernel_rfl)) ?_
  intro W base args ds gs before hval hW hcnd _
  obtain ⟨p, q, hA, hV, rfl, hfz, hnd⟩ := id hW
  have hA' : DataW.TrodAll enc Try.prog W 0 (fun _ => true) true [29, 24] args.toList ds p := hA
  obtain ⟨v0, v1, d0, d1, p0, p1, hargs, rfl, rfl, h0, h1⟩ := trodAll_two hA'
  obtain ⟨rfl, rfl⟩ := trodVars_none hV
  subst hargs
  obtain ⟨A, c, xs, rfl, hxs, hR⟩ := val29 (hval 0 29 _ rfl rfl) h0
  obtain ⟨u, rfl, hu⟩ := val24 h1
  have hS : St (fun _ => False) W [] [] [fSl k_TCube A c xs] W := St.refl (fun k h => h.elim) (fun f h => by rw [List.mem_singleton] at h; subst h; exact hxs)
  refine (ok_law03_SpaceIs 20001 hS (law_SpaceIs hR hu)).mono fun e W' ⟨v, he, hv, hT⟩ => ⟨v, he, ?_⟩
  subst hv
  exact post_law Try.laidOut (by kernel_rfl) rfl Try.underlying4 rfl rfl hW hT.below.to
theorem SpaceIs_holds : Rows.SpaceIsSaid :=
  OpenClaim.holds_of_wide 7 Try.f7 rfl rfl rfl rfl rfl rfl rfl ⟨rfl, rfl, rfl, rfl, rfl⟩ rfl rfl rfl rfl rfl (by kernel_rfl) Try.func7 (by kernel_rfl)
    (of_decide_eq_true (by kernel_rfl)) (by unfold Func.isWrapper; first | (rw [if_pos (by decide +kernel)]; kernel_rfl) | (rw [if_neg (by decide +kernel)]; exact ⟨rfl, rfl⟩))
    (fun os started H enc _ => SpaceIs_lifted os started H enc)
#print axioms SpaceIs_holds
end Go.Proofs.Ytangebngeeamoaa
