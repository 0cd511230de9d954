/- RegionOf: the law's row. -/
import Derived.Test.YtangebngeeamoaaQ7
import Derived.Test.YtangebngeeamoaaR2
import Derived.Test.YtangebngeeamoaaW7
set_option linter.unusedVariables false
set_option linter.unusedSimpArgs false
set_option maxRecDepth 100000
namespace Go.Proofs.Ytangebngeeamoaa
open Go.RowKit Go.ChangeShapes Go.WideShapes Go.Pod

theorem RegionOf_lifted (os : Os) (started : os.Started) (H : Type) (enc : TypeId × Value → H) :
    ReturnsInHanded {} Try.checked os 11 .any (Rows.regionOfSpec.pre6 enc Try.prog Try.f11 Rows.regionOfRow.domain false) (Rows.regionOfSpec.post enc Try.prog Try.f11 false true false false) := by
  refine returnsInHanded_of_change_sized (C := Try.checked) Try.own started (by kernel_rfl) Try.func11
    (ChangeSpec.witness6 (enc := enc) (C := Try.checked) false ⟨#[], #[.slice none 0 0, .int .i64 0], []⟩ 8 (by kernel_rfl) (by kernel_rfl) (by kernel_rfl) (by kernel_rfl)) ?_
  intro W base args ds gs before hval hW hcnd hwt _
  obtain ⟨p, q, hA, hV, rfl, hfz, hnd⟩ := id hW
  have hA' : DataW.TrodAll enc Try.prog W 0 (fun _ => true) true [56, 3] args.toList ds p := hA
  obtain ⟨v0, v1, d0, d1, p0, p1, hargs, rfl, rfl, h0, h1⟩ := trodAll_two hA'
  obtain ⟨rfl, rfl⟩ := trodVars_none hV
  subst hargs
  obtain ⟨A, c, xs, rfl, hxs, hR⟩ := valSlW (κ := k_TChange) (G := fun xs ws => ∀ c ∈ xs, (RC c.Mod.Match ∧ c.Mod.Acts.length < 2 ^ 63) ∧ Near32 c.Mod.Acts ws) Try.underlying56 opnW56 (hval 0 56 _ rfl rfl) h0
  obtain ⟨u, rfl⟩ := okWide_int Try.underlying3 (hval 1 3 _ rfl rfl)
  have hS : St (fun _ => False) W [] [] [fSl k_TChange A c xs] W := St.refl (fun k h => h.elim) (fun f h => by rw [List.mem_singleton] at h; subst h; exact hxs)
  have hacts : ∀ x ∈ xs, x.Mod.Acts.length * 32 ≤ 140737488355328 := fun x hx => by
    rcases (hR x hx).2 with h | ⟨n, hn, hle⟩
    · rw [h]; simp
    · have h2 := List.all_eq_true.1 hwt n (DataW.weights_mem_each (j := 0) (t := 56) (d := d0) rfl rfl n hn)
      have h3 : n ≤ reachBytes := by simpa using h2
      have h4 := reachBytes_lt
      omega
  have hk2 : ∀ x ∈ xs, x.Mod.Acts.length < 1001 + (xs.map fun c => c.Mod.Acts.length).sum := fun x hx => by
    have := le_sum (fun c : TChange => c.Mod.Acts.length) hx
    omega
  refine (ok_law19_RegionOf _ hS (law_RegionOf (by omega) (fun x hx => (hR x hx).1.1) hacts hk2)).mono fun e W' ⟨v, he, hv, hT⟩ => ⟨v, he, ?_⟩
  subst hv
  exact post_law Try.laidOut (by kernel_rfl) rfl Try.underlying4 rfl rfl hW hT.below.to
theorem RegionOf_holds : Rows.RegionOfSaid :=
  OpenClaim.holds_of_wide 11 Try.f11 rfl rfl rfl rfl rfl rfl rfl ⟨rfl, rfl, rfl, rfl, rfl⟩ rfl rfl rfl rfl rfl (by kernel_rfl) Try.func11 (by kernel_rfl)
    (of_decide_eq_true (by kernel_rfl)) (by unfold Func.isWrapper; first | (rw [if_pos (by decide +kernel)]; kernel_rfl) | (rw [if_neg (by decide +kernel)]; exact ⟨rfl, rfl⟩))
    (fun os started H enc _ => RegionOf_lifted os started H enc)
#print axioms RegionOf_holds
end Go.Proofs.Ytangebngeeamoaa
