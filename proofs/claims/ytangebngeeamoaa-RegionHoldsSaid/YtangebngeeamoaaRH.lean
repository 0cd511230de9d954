/- RegionHolds: the law's row. -/
import Derived.Test.YtangebngeeamoaaQ5
import Derived.Test.YtangebngeeamoaaR1
import Derived.Test.YtangebngeeamoaaW12
set_option linter.unusedVariables false
set_option linter.unusedSimpArgs false
set_option maxRecDepth 100000
namespace Go.Proofs.Ytangebngeeamoaa
open Go.RowKit Go.ChangeShapes Go.WideShapes Go.Pod

theorem RegionHolds_lifted (os : Os) (started : os.Started) (H : Type) (enc : TypeId × Value → H) :
    ReturnsInHanded {} Try.checked os 6 .any (Rows.regionHoldsSpec.pre6 enc Try.prog Try.f6 Rows.regionHoldsRow.domain false) (Rows.regionHoldsSpec.post enc Try.prog Try.f6 false true false false) := by
  refine returnsInHanded_of_change (C := Try.checked) Try.own started (by kernel_rfl) Try.func6
    (ChangeSpec.witness6 (enc := enc) (C := Try.checked) false ⟨#[], #[.slice none 0 0, .slice none 0 0], []⟩ 8 (by kernel_rfl) (by kernel_rfl) (by kernel_rfl) (by kernel_rfl)) ?_
  intro W base args ds gs before hval hW hcnd _
  obtain ⟨p, q, hA, hV, rfl, hfz, hnd⟩ := id hW
  have hA' : DataW.TrodAll enc Try.prog W 0 (fun _ => true) true [37, 56] args.toList ds p := hA
  obtain ⟨v0, v1, d0, d1, p0, p1, hargs, rfl, rfl, h0, h1⟩ := trodAll_two hA'
  obtain ⟨rfl, rfl⟩ := trodVars_none hV
  subst hargs
  obtain ⟨A, c, xs, rfl, hxs, hR⟩ := valSl Try.underlying37 opn37 (hval 0 37 _ rfl rfl) h0
  obtain ⟨A2, c2, ys, rfl, hys, hR2⟩ := valSl Try.underlying56 opn56 (hval 1 56 _ rfl rfl) h1
  have hS : St (fun _ => False) W [] [] [fSl k_TRule A c xs, fSl k_TChange A2 c2 ys] W := St.refl (fun k h => h.elim) (fun f h => by
    rcases List.mem_cons.1 h with h | h
    · subst h; exact hxs
    · rw [List.mem_singleton] at h; subst h; exact hys)
  have hl : ∀ r ∈ xs, OkR (5001 + ((xs.map fun r => r.Acts.length).sum + (ys.map fun c => c.Mod.Acts.length).sum)) r := fun r hr => ⟨(hR r hr).1, by have := le_sum (fun r : TRule => r.Acts.length) hr; omega, (hR r hr).2⟩
  have hch : ∀ c ∈ ys, OkM (5001 + ((xs.map fun r => r.Acts.length).sum + (ys.map fun c => c.Mod.Acts.length).sum)) c.Mod := fun c hc => ⟨(hR2 c hc).1, by have := le_sum (fun c : TChange => c.Mod.Acts.length) hc; omega, (hR2 c hc).2⟩
  refine (ok_law19_RegionHolds _ hS (law_RegionHolds (by omega) hl hch)).mono fun e W' ⟨v, he, hv, hT⟩ => ⟨v, he, ?_⟩
  subst hv
  exact post_law Try.laidOut (by kernel_rfl) rfl Try.underlying4 rfl rfl hW hT.below.to
theorem RegionHolds_holds : Rows.RegionHoldsSaid :=
  OpenClaim.holds_of_wide 6 Try.f6 rfl rfl rfl rfl rfl rfl rfl ⟨rfl, rfl, rfl, rfl, rfl⟩ rfl rfl rfl rfl rfl (by kernel_rfl) Try.func6 (by kernel_rfl)
    (of_decide_eq_true (by kernel_rfl)) (by unfold Func.isWrapper; first | (rw [if_pos (by decide +kernel)]; kernel_rfl) | (rw [if_neg (by decide +kernel)]; exact ⟨rfl, rfl⟩))
    (fun os started H enc _ => RegionHolds_lifted os started H enc)
#print axioms RegionHolds_holds
end Go.Proofs.Ytangebngeeamoaa
