/- ModsApply: the law's row. -/
import Derived.Test.YtangebngeeamoaaM5
import Derived.Test.YtangebngeeamoaaR3
import Derived.Test.YtangebngeeamoaaW13
set_option linter.unusedVariables false
set_option linter.unusedSimpArgs false
set_option maxRecDepth 100000
namespace Go.Proofs.Ytangebngeeamoaa
open Go.RowKit Go.ChangeShapes Go.WideShapes Go.Pod

theorem ModsApply_lifted (os : Os) (started : os.Started) (H : Type) (enc : TypeId × Value → H) :
    ReturnsInHanded {} Try.checked os 4 .any (Rows.modsApplySpec.pre6 enc Try.prog Try.f4 Rows.modsApplyRow.domain false) (Rows.modsApplySpec.post enc Try.prog Try.f4 false true false false) := by
  refine returnsInHanded_of_change_sized (C := Try.checked) Try.own started (by kernel_rfl) Try.func4
    (ChangeSpec.witness6 (enc := enc) (C := Try.checked) false ⟨#[], #[.slice none 0 0, .agg (TMod.enc am1 none 0).toArray, .int .i64 0], []⟩ 8 (by kernel_rfl) (by kernel_rfl) (by kernel_rfl) (by kernel_rfl)) ?_
  intro W base args ds gs before hval hW hcnd hwt _
  obtain ⟨p, q, hA, hV, rfl, hfz, hnd⟩ := id hW
  have hA' : DataW.TrodAll enc Try.prog W 0 (fun _ => true) true [37, 40, 3] args.toList ds p := hA
  obtain ⟨v0, v1, v2, d0, d1, d2, p0, p1, p2, hargs, rfl, rfl, h0, h1, h2⟩ := trodAll_three hA'
  obtain ⟨rfl, rfl⟩ := trodVars_none hV
  subst hargs
  obtain ⟨A, c, xs, rfl, hxs, hR⟩ := valSlW (κ := k_TRule) (G := fun xs ws => ∀ r ∈ xs, ((RC r.Match ∧ r.Acts.length < 2 ^ 63) ∧ ∀ a ∈ r.Acts, UA a) ∧ Near32 r.Acts ws) Try.underlying37 opnU37 (hval 0 37 _ rfl rfl) h0
  obtain ⟨A2, c2, m, rfl, hys, hR2⟩ := val40 h1
  obtain ⟨u, rfl⟩ := okWide_int Try.underlying3 (hval 2 3 _ rfl rfl)
  have hS : St (fun _ => False) W [] [] [fSl k_TRule A c xs, fSl k_TAct A2 c2 m.Acts] W := St.refl (fun k h => h.elim) (fun f h => by
    rcases List.mem_cons.1 h with h | h
    · subst h; exact hxs
    · rw [List.mem_singleton] at h; subst h; exact hys)
  have hw0 : ∀ n ∈ d0.weights Try.prog 37, n ≤ reachBytes := fun n hn => by
    have h2 := List.all_eq_true.1 hwt n (DataW.weights_mem_each (j := 0) (t := 37) (d := d0) rfl rfl n hn)
    simpa using h2
  have hw1 : ∀ n ∈ d1.weights Try.prog 40, n ≤ reachBytes := fun n hn => by
    have h2 := List.all_eq_true.1 hwt n (DataW.weights_mem_each (j := 1) (t := 40) (d := d1) rfl rfl n hn)
    simpa using h2
  have hl : ∀ r ∈ xs, OkR (2001 + ((xs.map fun r => r.Acts.length).sum + m.Acts.length)) r := fun r hr =>
    ⟨(hR r hr).1.1.1, (hR r hr).1.2, by have := le_sum (fun r : TRule => r.Acts.length) hr; omega, (hR r hr).1.1.2, (hR r hr).2.fit hw0⟩
  have hm : OkM (2001 + ((xs.map fun r => r.Acts.length).sum + m.Acts.length)) m := ⟨hR2.1.1.1, hR2.1.2, by omega, hR2.1.1.2, hR2.2.fit hw1⟩
  refine (ok_law07_ModsApply _ hS (law_ModsApply (by omega) hm hl)).mono fun e W' ⟨v, he, hv, hT⟩ => ⟨v, he, ?_⟩
  subst hv
  exact post_law Try.laidOut (by kernel_rfl) rfl Try.underlying4 rfl rfl hW hT.below.to
theorem ModsApply_holds : Rows.ModsApplySaid :=
  OpenClaim.holds_of_wide 4 Try.f4 rfl rfl rfl rfl rfl rfl rfl ⟨rfl, rfl, rfl, rfl, rfl⟩ rfl rfl rfl rfl rfl (by kernel_rfl) Try.func4 (by kernel_rfl)
    (of_decide_eq_true (by kernel_rfl)) (by unfold Func.isWrapper; first | (rw [if_pos (by decide +kernel)]; kernel_rfl) | (rw [if_neg (by decide +kernel)]; exact ⟨rfl, rfl⟩))
    (fun os started H enc _ => ModsApply_lifted os started H enc)
#print axioms ModsApply_holds
end Go.Proofs.Ytangebngeeamoaa
