/- Plain words for walks: the library's copy of a row's cells. Nothing of the program in it. -/
import Derived.Test.YtgfnkigoaajllaaGreatL16
import Derived.Shelf.Spec.SlicesInsert
import Derived.Lib.AppendZerosOnto
set_option linter.unusedVariables false
set_option linter.unusedSimpArgs false
namespace Go.Pod
open Go.RowKit
theorem run_copy_k {P : Program} (w : World) (dT sT ty elem : TypeId) {sz : Nat} (g o dLen dCap : Nat) (a : Addr) (sLen sCap : Nat) (cur : Array Value) (t : TypeId) (fr : Nat × Nat) (k : Nat) (cs : List Value)
    (hu : P.underlying dT = some (.slice elem)) (hs : (P.info? elem).map (·.size) = some sz) (hg : w.heap[g]? = some (.cells cur t fr)) (hfr : fr = (0, 0) ∨ cur.size ≤ fr.1) (hk : k = Nat.min sLen dLen) (hn : cs.length = k * sz)
    (hsrc : CellsAt w a cs) (hfit : o + cs.length ≤ cur.size) (h1 : ∀ v ∈ cs, v.oneCell' = true) :
    (Builtin.copy_ #[dT, sT] ty #[.slice (some ⟨g, o, none⟩) dLen dCap, .slice (some a) sLen sCap]).run P w =
      .ok (goInt k) (w.setRow g (cur.toList.take o ++ cs ++ cur.toList.drop (o + cs.length)).toArray) := by
  have hf := run_firstCells_some (P := P) w sz k a sLen sCap cs hn hsrc
  have hst := run_storeCells_fr (P := P) g o t fr cs 0 cur w hg hfr (by simpa using hfit) h1
  simp only [Nat.add_zero] at hst
  cases hq : P.info? elem with
  | none => simp [hq] at hs
  | some i =>
    have hi : i.size = sz := by simpa [hq] using hs
    simp [Builtin.copy_, run_underlying hu, Builtin.lenOf, sizeOf, typeInfo, hq, hi, ← hk, hf, hst]
/-- What slices.Insert of one element comes to. -/
def insO {α : Type} (by_ : Nat) (xs : List α) (i : Int) (ys : List α) : Option (List α) :=
  if 0 ≤ i ∧ i ≤ xs.length ∧ ys.length = 1 ∧ (xs.length + 1) * by_ ≤ 140737488355328 then some (xs.take i.toNat ++ ys ++ xs.drop i.toNat) else none
theorem insO_of {α : Type} {by_ : Nat} {xs ys o : List α} {i : Int} (h : insO by_ xs i ys = some o) : 0 ≤ i ∧ i ≤ xs.length ∧ ys.length = 1 ∧ (xs.length + 1) * by_ ≤ 140737488355328 ∧ o = xs.take i.toNat ++ ys ++ xs.drop i.toNat := by
  unfold insO at h
  split at h
  · rename_i hc
    cases h
    exact ⟨hc.1, hc.2.1, hc.2.2.1, hc.2.2.2, rfl⟩
  · cases h
theorem Els.drop {α : Type} {κ : Kd α} {M : Nat → Prop} {W : World} {css : List (List Value)} {xs : List α} (h : Els κ M W css xs) (n : Nat) : Els κ M W (css.drop n) (xs.drop n) := by
  refine ⟨by simp [h.1], fun i cs x h1 h2 => ?_⟩
  rw [List.getElem?_drop] at h1 h2
  exact h.2 _ cs x h1 h2
theorem flatten_drop {s : Nat} {css : List (List Value)} (k : Nat) (h : ∀ c ∈ css, c.length = s) : (css.drop k).flatten = css.flatten.drop (k * s) := by
  have h1 := flatten_take css k h
  have h2 : css.flatten = (css.take k).flatten ++ (css.drop k).flatten := by rw [← List.flatten_append, List.take_append_drop]
  rcases Nat.lt_or_ge k css.length with hk | hk
  · have hl : (css.take k).flatten.length = k * s := by
      rw [flatten_length (n := s) (fun c hc => h c (List.mem_of_mem_take hc)), List.length_take, Nat.min_eq_left (by omega)]
    rw [h2, ← hl, List.drop_left]
  · rw [List.drop_eq_nil_of_le hk]
    have hl : css.flatten.length ≤ k * s := by
      rw [flatten_length h]
      exact Nat.mul_le_mul_right _ hk
    rw [List.drop_eq_nil_of_le hl]; rfl
theorem grown_weak {W W' : World} (h : W.grownBy W' none) (row : Option Nat) : W.grownBy W' row := ⟨h.1, h.2, h.3, h.4, fun k hk _ => h.5 k hk (by simp)⟩
end Go.Pod
