/- ShadowSteps: the law's row. -/
import Derived.Test.YtgfnkigoaajllaaGreatO3
import Derived.Test.YtgfnkigoaajllaaGreatPS
import Derived.Test.YtgfnkigoaajllaaGreatKSS
import Derived.Test.YtgfnkigoaajllaaGreatW3
set_option linter.unusedVariables false
set_option linter.unusedSimpArgs false
set_option maxRecDepth 100000
namespace Go.Proofs.YtgfnkigoaajllaaGreat
open Go.RowKit Go.ChangeShapes Go.WideShapes Go.Pod

theorem ShadowSteps_lifted (os : Os) (started : os.Started) (H : Type) (enc : TypeId × Value → H) :
    ReturnsInHanded {} Tryz.checked os 3 .any (Rows.shadowStepsSpec.pre6 enc Tryz.prog Tryz.f3 Rows.shadowStepsRow.domain false) (Rows.shadowStepsSpec.post enc Tryz.prog Tryz.f3 false true false false) := by
  refine returnsInHanded_of_change_sized (C := Tryz.checked) Tryz.own started (by kernel_rfl) Tryz.func3
    (ChangeSpec.witness6 (enc := enc) (C := Tryz.checked) false ⟨#[], #[.slice none 0 0], []⟩ 8 (by kernel_rfl) (by kernel_rfl) (by kernel_rfl) (by kernel_rfl)) ?_
  intro W base args ds gs before hval hW hcnd hwt _
  obtain ⟨p, q, hA, hV, rfl, hfz, hnd⟩ := id hW
  have hA' : DataW.TrodAll enc Tryz.prog W 0 (fun _ => true) true [22] args.toList ds p := hA
  obtain ⟨v0, d0, hargs, rfl, h0⟩ := trodAll_one hA'
  obtain ⟨rfl, rfl⟩ := trodVars_none hV
  subst hargs
  obtain ⟨A, c, xs, rfl, hxs, hG⟩ := valSlW Tryz.underlying22 opg22 (hval 0 22 _ rfl rfl) h0
  have hw0 : ∀ n ∈ d0.weights Tryz.prog 22, n ≤ reachBytes := fun n hn => by
    have h2 := List.all_eq_true.1 hwt n (DataW.weights_mem_each (j := 0) (t := 22) (d := d0) rfl rfl n hn)
    simpa using h2
  have hS : St (fun _ => False) W [] [] [fSl (kSl k_TChange) A c xs] W := St.refl (fun k h => h.elim) (fun f h => by rw [List.mem_singleton] at h; subst h; exact hxs)
  have hc : ∀ cs ∈ xs, ∀ c ∈ cs, OkM (2001 + (xs.map actsLen).sum) c.Mod := fun cs hcs c hc =>
    okM_of ((hG.1 cs hcs).1 c hc).2.1 hw0 (by have h1 := actsLen_le hc; have h2 := le_sum actsLen hcs; omega)
  refine (ok_law22_ShadowSteps _ hS (law_ShadowSteps (by omega) hc)).mono fun e W' ⟨v, he, hv, hT⟩ => ⟨v, he, ?_⟩
  subst hv
  exact post_law Tryz.laidOut (by kernel_rfl) rfl Tryz.underlying4 rfl rfl hW hT.below.to
theorem ShadowSteps_holds : Rows.ShadowStepsSaid :=
  OpenClaim.holds_of_wide 3 Tryz.f3 rfl rfl rfl rfl rfl rfl rfl ⟨rfl, rfl, rfl, rfl, rfl⟩ rfl rfl rfl rfl rfl namedK Tryz.func3 closedK instK wrapK
    (fun os started H enc _ => ShadowSteps_lifted os started H enc)
#print axioms ShadowSteps_holds
end Go.Proofs.YtgfnkigoaajllaaGreat
