/- SpaceKeeps: the law's row. -/
import Derived.Test.YtangebngeeamoaaR0
import Derived.Test.YtangebngeeamoaaS6
import Derived.Test.YtangebngeeamoaaW9
set_option linter.unusedVariables false
set_option linter.unusedSimpArgs false
set_option maxRecDepth 100000
namespace Go.Proofs.Ytangebngeeamoaa
open Go.RowKit Go.ChangeShapes Go.WideShapes Go.Pod

theorem SpaceKeeps_lifted (os : Os) (started : os.Started) (H : Type) (enc : TypeId × Value → H) :
    ReturnsInHanded {} Try.checked os 9 .any (Rows.spaceKeepsSpec.pre6 enc Try.prog Try.f9 Rows.spaceKeepsRow.domain false) (Rows.spaceKeepsSpec.post enc Try.prog Try.f9 false true false false) := by
  refine returnsInHanded_of_change (C := Try.checked) Try.own started (by kernel_rfl) Try.func9
    (ChangeSpec.witness6 (enc := enc) (C := Try.checked) false ⟨#[], #[.slice none 0 0, .slice none 0 0], []⟩ 8 (by kernel_rfl) (by kernel_rfl) (by kernel_rfl) (by kernel_rfl)) ?_
  intro W base args ds gs before hval hW hcnd _
  obtain ⟨p, q, hA, hV, rfl, hfz, hnd⟩ := id hW
  have hA' : DataW.TrodAll enc Try.prog W 0 (fun _ => true) true [29, 29] args.toList ds p := hA
  obtain ⟨v0, v1, d0, d1, p0, p1, hargs, rfl, rfl, h0, h1⟩ := trodAll_two hA'
  obtain ⟨rfl, rfl⟩ := trodVars_none hV
  subst hargs
  obtain ⟨A, c, xs, rfl, hxs, hR⟩ := val29 (hval 0 29 _ rfl rfl) h0
  obtain ⟨A2, c2, ys, rfl, hys, hR2⟩ := val29 (hval 1 29 _ rfl rfl) h1
  have hS : St (fun _ => False) W [] [] [fSl k_TCube A c xs, fSl k_TCube A2 c2 ys] W := St.refl (fun k h => h.elim) (fun f h => by
    rcases List.mem_cons.1 h with h | h
    · subst h; exact hxs
    · rw [List.mem_singleton] at h; subst h; exact hys)
  refine (ok_law03_SpaceKeeps 20001 hS (law_SpaceKeeps hR hR2)).mono fun e W' ⟨v, he, hv, hT⟩ => ⟨v, he, ?_⟩
  subst hv
  exact post_law Try.laidOut (by kernel_rfl) rfl Try.underlying4 rfl rfl hW hT.below.to
theorem SpaceKeeps_holds : Rows.SpaceKeepsSaid :=
  OpenClaim.holds_of_wide 9 Try.f9 rfl rfl rfl rfl rfl rfl rfl ⟨rfl, rfl, rfl, rfl, rfl⟩ rfl rfl rfl rfl rfl (by kernel_rfl) Try.func9 (by kernel_rfl)
    (of_decide_eq_true (by kernel_rfl)) (by unfold Func.isWrapper; first | (rw [if_pos (by decide +kernel)]; kernel_rfl) | (rw [if_neg (by decide +kernel)]; exact ⟨rfl, rfl⟩))
    (fun os started H enc _ => SpaceKeeps_lifted os started H enc)
#print axioms SpaceKeeps_holds
end Go.Proofs.Ytangebngeeamoaa
