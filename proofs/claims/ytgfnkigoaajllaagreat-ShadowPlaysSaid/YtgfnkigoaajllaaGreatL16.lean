/- Plain words for walks: what has grown alone, as the library's sort wants it said. Nothing of the program in it. -/
import Derived.Test.YtgfnkigoaajllaaGreatL14
import Derived.Sort.Grow
set_option linter.unusedVariables false
set_option linter.unusedSimpArgs false
namespace Go.Pod
open Go.RowKit Go.Sort Go.Lib
theorem grow_of {W W' : World} (h : Bl W.heap.size W W') : ∃ q os, W' = grow (W.drewN q) os := by
  refine ⟨W'.drawn - W.drawn, W'.heap.extract W.heap.size W'.heap.size, ?_⟩
  have hh : W'.heap = W.heap ++ W'.heap.extract W.heap.size W'.heap.size := by
    apply Array.ext_getElem?
    intro k
    rcases Nat.lt_or_ge k W.heap.size with hk | hk
    · rw [Array.getElem?_append_left hk, h.block k hk]
    · rw [Array.getElem?_append_right hk, Array.getElem?_extract]
      have hs := h.size
      rcases Nat.lt_or_ge k W'.heap.size with h2 | h2
      · rw [if_pos (by omega)]; congr 1; omega
      · rw [if_neg (by omega), Array.getElem?_eq_none h2]
  have e1 := h.to.os
  have e2 := h.to.tape
  have e3 := h.to.output
  have e4 := h.drw
  cases W with | mk hp tp dr os ou =>
  cases W' with | mk hp' tp' dr' os' ou' =>
  simp only at e1 e2 e3 e4 hh ⊢
  subst e1; subst e2; subst e3
  simp only [Sort.grow, World.drewN, World.mk.injEq, true_and, and_true]
  exact ⟨hh, by omega⟩
end Go.Pod
