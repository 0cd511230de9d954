/- UndoChanges: the law's row. -/
import Derived.Test.YtangebngeeamoaaN2
import Derived.Test.YtangebngeeamoaaR3
import Derived.Test.YtangebngeeamoaaW16
set_option linter.unusedVariables false
set_option linter.unusedSimpArgs false
set_option maxRecDepth 100000
namespace Go.Proofs.Ytangebngeeamoaa
open Go.RowKit Go.ChangeShapes Go.WideShapes Go.Pod

theorem opnU48 : OpnW Try.prog (kSl k_TMod) 48 fun xs ws => ∀ m ∈ xs, ((RC m.Match ∧ m.Acts.length < 2 ^ 63) ∧ ∀ a ∈ m.Acts, UA a) ∧ Near32 m.Acts ws := fun h => by
  obtain ⟨a, h1, h2, _⟩ := OpnW.slice (κ := k_TMod) (G := fun m ws => ((RC m.Match ∧ m.Acts.length < 2 ^ 63) ∧ ∀ a ∈ m.Acts, UA a) ∧ Near32 m.Acts ws) (fun _ _ _ hw h => ⟨h.1, h.2.mono hw⟩) Try.underlying48 opnU40 cells40 (by decide) h
  exact ⟨a, h1, h2⟩
theorem UndoChanges_lifted (os : Os) (started : os.Started) (H : Type) (enc : TypeId × Value → H) :
    ReturnsInHanded {} Try.checked os 5 .any (Rows.undoChangesSpec.pre6 enc Try.prog Try.f5 Rows.undoChangesRow.domain false) (Rows.undoChangesSpec.post enc Try.prog Try.f5 false true false false) := by
  refine returnsInHanded_of_change_sized (C := Try.checked) Try.own started (by kernel_rfl) Try.func5
    (ChangeSpec.witness6 (enc := enc) (C := Try.checked) false ⟨#[], #[.slice none 0 0, .slice none 0 0, .int .i64 0], []⟩ 8 (by kernel_rfl) (by kernel_rfl) (by kernel_rfl) (by kernel_rfl)) ?_
  intro W base args ds gs before hval hW hcnd hwt _
  obtain ⟨p, q, hA, hV, rfl, hfz, hnd⟩ := id hW
  have hA' : DataW.TrodAll enc Try.prog W 0 (fun _ => true) true [37, 48, 3] args.toList ds p := hA
  obtain ⟨v0, v1, v2, d0, d1, d2, p0, p1, p2, hargs, rfl, rfl, h0, h1, h2⟩ := trodAll_three hA'
  obtain ⟨rfl, rfl⟩ := trodVars_none hV
  subst hargs
  obtain ⟨A, c, xs, rfl, hxs, hR⟩ := valSlW (κ := k_TRule) (G := fun xs ws => ∀ r ∈ xs, ((RC r.Match ∧ r.Acts.length < 2 ^ 63) ∧ ∀ a ∈ r.Acts, UA a) ∧ Near32 r.Acts ws) Try.underlying37 opnU37 (hval 0 37 _ rfl rfl) h0
  obtain ⟨A2, c2, ms, rfl, hys, hR2⟩ := valSlW (κ := k_TMod) (G := fun xs ws => ∀ m ∈ xs, ((RC m.Match ∧ m.Acts.length < 2 ^ 63) ∧ ∀ a ∈ m.Acts, UA a) ∧ Near32 m.Acts ws) Try.underlying48 opnU48 (hval 1 48 _ rfl rfl) h1
  obtain ⟨u, rfl⟩ := okWide_int Try.underlying3 (hval 2 3 _ rfl rfl)
  have hS : St (fun _ => False) W [] [] [fSl k_TRule A c xs, fSl k_TMod A2 c2 ms] W := St.refl (fun k h => h.elim) (fun f h => by
    rcases List.mem_cons.1 h with h | h
    · subst h; exact hxs
    · rw [List.mem_singleton] at h; subst h; exact hys)
  have hw0 : ∀ n ∈ d0.weights Try.prog 37, n ≤ reachBytes := fun n hn => by
    have h2 := List.all_eq_true.1 hwt n (DataW.weights_mem_each (j := 0) (t := 37) (d := d0) rfl rfl n hn)
    simpa using h2
  have hw1 : ∀ n ∈ d1.weights Try.prog 48, n ≤ reachBytes := fun n hn => by
    have h2 := List.all_eq_true.1 hwt n (DataW.weights_mem_each (j := 1) (t := 48) (d := d1) rfl rfl n hn)
    simpa using h2
  have hl : ∀ r ∈ xs, OkR (2001 + ((xs.map fun r => r.Acts.length).sum + (ms.map fun m => m.Acts.length).sum)) r := fun r hr =>
    ⟨(hR r hr).1.1.1, (hR r hr).1.2, by have := le_sum (fun r : TRule => r.Acts.length) hr; omega, (hR r hr).1.1.2, (hR r hr).2.fit hw0⟩
  have hm : ∀ m ∈ ms, OkM (2001 + ((xs.map fun r => r.Acts.length).sum + (ms.map fun m => m.Acts.length).sum)) m := fun m hm =>
    ⟨(hR2 m hm).1.1.1, (hR2 m hm).1.2, by have := le_sum (fun m : TMod => m.Acts.length) hm; omega, (hR2 m hm).1.1.2, (hR2 m hm).2.fit hw1⟩
  refine (ok_law08_UndoChanges _ hS (law_UndoChanges (by omega) hm hl)).mono fun e W' ⟨v, he, hv, hT⟩ => ⟨v, he, ?_⟩
  subst hv
  exact post_law Try.laidOut (by kernel_rfl) rfl Try.underlying4 rfl rfl hW hT.below.to
theorem UndoChanges_holds : Rows.UndoChangesSaid :=
  OpenClaim.holds_of_wide 5 Try.f5 rfl rfl rfl rfl rfl rfl rfl ⟨rfl, rfl, rfl, rfl, rfl⟩ rfl rfl rfl rfl rfl (by kernel_rfl) Try.func5 (by kernel_rfl)
    (of_decide_eq_true (by kernel_rfl)) (by unfold Func.isWrapper; first | (rw [if_pos (by decide +kernel)]; kernel_rfl) | (rw [if_neg (by decide +kernel)]; exact ⟨rfl, rfl⟩))
    (fun os started H enc _ => UndoChanges_lifted os started H enc)
#print axioms UndoChanges_holds
end Go.Proofs.Ytangebngeeamoaa
