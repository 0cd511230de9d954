/- Plain words for walks: sorting. Nothing of the program in it. -/
import Derived.Test.YtangebngeeamoaaL14
import Derived.Shelf.SlSortCmp.NoneTotal
set_option linter.unusedVariables false
set_option linter.unusedSimpArgs false
namespace Go.Pod
open Go.RowKit Go.Sort Go.Proofs
/-- The comparison answers for all pairs, and orders them: ones of which neither is less are equal. -/
structure Ords {α : Type} (p : α → α → Option Int) (c : α → α → Int) : Prop where
  val : ∀ a b, p a b = some (c a b)
  swo : SWO (ltOf c)
  tot : ∀ a b, ltOf c a b = false → ltOf c b a = false → a = b
theorem Ords.one {α : Type} {p : α → α → Option Int} {c d : α → α → Int} (h : Ords p c) (k : Ords p d) : c = d := by
  funext a b
  have := h.val a b
  rw [k.val a b] at this
  exact (Option.some.inj this).symm
open Classical in
/-- What sorting by a comparison comes to. -/
noncomputable def sortO {α : Type} (p : α → α → Option Int) (xs : List α) : Option (List α) :=
  if xs.length < 4611686018427387904 then (if h : ∃ c, Ords p c then some (xs.mergeSort fun x y => !(ltOf (Classical.choose h)) y x) else none) else none
theorem sortO_eq {α : Type} {p : α → α → Option Int} {c : α → α → Int} (h : Ords p c) {xs : List α} (hl : xs.length < 4611686018427387904) : sortO p xs = some (xs.mergeSort fun x y => !(ltOf c) y x) := by
  unfold sortO
  have h' : ∃ c, Ords p c := ⟨c, h⟩
  rw [if_pos hl, dif_pos h', h.one (Classical.choose_spec h')]
theorem sortO_of {α : Type} {p : α → α → Option Int} {xs o : List α} (h : sortO p xs = some o) : xs.length < 4611686018427387904 ∧ ∃ c, Ords p c ∧ o = xs.mergeSort fun x y => !(ltOf c) y x := by
  by_cases hl : xs.length < 4611686018427387904
  · refine ⟨hl, ?_⟩
    by_cases h' : ∃ c, Ords p c
    · obtain ⟨c, hc⟩ := h'
      rw [sortO_eq hc hl] at h
      exact ⟨c, hc, (Option.some.inj h).symm⟩
    · unfold sortO at h
      rw [if_pos hl, dif_neg h'] at h
      cases h
  · unfold sortO at h
    rw [if_neg hl] at h
    cases h
theorem sortO_len {α : Type} {p : α → α → Option Int} {xs o : List α} (h : sortO p xs = some o) : o.length = xs.length := by
  obtain ⟨_, c, _, rfl⟩ := sortO_of h
  exact List.length_mergeSort _
end Go.Pod
