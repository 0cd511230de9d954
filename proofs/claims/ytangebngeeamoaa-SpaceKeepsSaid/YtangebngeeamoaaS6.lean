/- The plain law of SpaceKeeps. -/
import Derived.Test.YtangebngeeamoaaS5
set_option linter.unusedVariables false
set_option linter.unusedSimpArgs false
set_option maxRecDepth 100000
namespace Go.Proofs.Ytangebngeeamoaa
open Go.RowKit Go.Pod
theorem Keeps_l0 (k : Nat) : ∀ (r n m : Nat) (l : List TCube), n + r = l.length → r < m → l.length < 2 ^ 62 → law03_SpaceKeeps.l0 k m l (n : Int) = some ()
  | r, n, 0, _, _, h, _ => by omega
  | 0, n, m + 1, l, hn, _, _ => by
    rw [law03_SpaceKeeps.l0, if_neg (by simp only [decide_eq_true_eq]; omega)]
  | r + 1, n, m + 1, l, hn, hr, hl => by
    have h1 : n < l.length := by omega
    rw [law03_SpaceKeeps.l0, if_pos (by simp only [decide_eq_true_eq]; omega), idx_nat h1, inc n (by omega), Option.bind_some]
    exact Keeps_l0 k r (n + 1) m _ (by rw [List.length_set]; omega) (by omega) (by rw [List.length_set]; exact hl)
theorem Keeps_l1 (k : Nat) : ∀ (r n m : Nat) (l : List TCube), n + r = l.length → r < m → l.length < 2 ^ 62 → law03_SpaceKeeps.l1 k m l (n : Int) = some ()
  | r, n, 0, _, _, h, _ => by omega
  | 0, n, m + 1, l, hn, _, _ => by
    rw [law03_SpaceKeeps.l1, if_neg (by simp only [decide_eq_true_eq]; omega)]
  | r + 1, n, m + 1, l, hn, hr, hl => by
    have h1 : n < l.length := by omega
    rw [law03_SpaceKeeps.l1, if_pos (by simp only [decide_eq_true_eq]; omega), idx_nat h1, inc n (by omega), Option.bind_some]
    exact Keeps_l1 k r (n + 1) m _ (by rw [List.length_set]; omega) (by omega) (by rw [List.length_set]; exact hl)
theorem Keeps_l2 (k : Nat) : ∀ (r n m : Nat) (l : List TCube), n + r = l.length → r < m → l.length < 2 ^ 62 → law03_SpaceKeeps.l2 k m l (n : Int) = some ()
  | r, n, 0, _, _, h, _ => by omega
  | 0, n, m + 1, l, hn, _, _ => by
    rw [law03_SpaceKeeps.l2, if_neg (by simp only [decide_eq_true_eq]; omega)]
  | r + 1, n, m + 1, l, hn, hr, hl => by
    have h1 : n < l.length := by omega
    rw [law03_SpaceKeeps.l2, if_pos (by simp only [decide_eq_true_eq]; omega), idx_nat h1, inc n (by omega), Option.bind_some]
    exact Keeps_l2 k r (n + 1) m _ (by rw [List.length_set]; omega) (by omega) (by rw [List.length_set]; exact hl)
theorem law_SpaceKeeps {a b : List TCube} (ha : RCs a) (hb : RCs b) : law03_SpaceKeeps 20001 a b = some true := by
  have hk : 20000 < 20001 := by decide
  generalize 20001 = k at hk ⊢
  unfold law03_SpaceKeeps
  rw [few_at, Option.bind_some, few_at]
  by_cases h8 : a.length ≤ 8
  · by_cases h8b : b.length ≤ 8
    · simp only [h8, h8b, decide_true, Bool.not_true, Bool.false_eq_true, if_false, Option.bind_some]
      have hl64 := @lessS_len a b
      have hm64 := @meetS_len a b
      have hal := leanC_len a
      have k0 := Keeps_l0 k (leanC a).length 0 k (leanC a) (by omega) (by omega) (by omega)
      have k1 := Keeps_l1 k (meetS a b).1.length 0 k (meetS a b).1 (by omega) (by omega) (by omega)
      have k2 := Keeps_l2 k (lessS a b).1.length 0 k (lessS a b).1 (by omega) (by omega) (by omega)
      rw [show ((0 : Nat) : Int) = 0 from rfl] at k0 k1 k2
      rw [app_some (by simp only [List.length_nil]; omega), Option.bind_some, List.nil_append, app_some (by simp only [List.length_nil]; omega), Option.bind_some, List.nil_append, space_Lean_at (by omega) ha (by omega) (by omega), Option.bind_some, k0, Option.bind_some,
        space_Meet_at hk ha hb, Option.bind_some, space_Less_at hk ha hb, Option.bind_some, k1, Option.bind_some, k2, Option.bind_some, answers3 hk, Option.bind_some, if_pos rfl, SameCubes_refl (by omega) (by omega), Option.bind_some, Option.bind_some, if_pos rfl, SameCubes_refl (by omega) (by omega)]
      rfl
    · simp only [h8, h8b, decide_true, decide_false, Bool.not_true, Bool.not_false, Bool.false_eq_true, if_false, if_true, Option.bind_some]
      rw [answers3 hk]; rfl
  · simp only [h8, decide_false, Bool.not_false, if_true, Option.bind_some]
    rw [answers3 hk]; rfl
end Go.Proofs.Ytangebngeeamoaa
