/- The plain law of CubeSets. -/
import Derived.Test.YtangebngeeamoaaC6
import Derived.KernelRfl
set_option linter.unusedVariables false
set_option linter.unusedSimpArgs false
set_option maxRecDepth 100000
namespace Go.Proofs.Ytangebngeeamoaa
open Go.RowKit Go.Pod

theorem SameCubes_l0 (k : Nat) (l : List TCube) : ∀ (r n m : Nat), n + r = l.length → r < m → l.length < 2 ^ 62 → ref01_SameCubes.l0 k l l m (n : Int) = some (.brk ())
  | r, n, 0, _, h, _ => by omega
  | 0, n, m + 1, hn, _, _ => by
    rw [ref01_SameCubes.l0, if_neg (by simp only [decide_eq_true_eq]; omega)]
  | r + 1, n, m + 1, hn, hr, hl => by
    have h1 : n < l.length := by omega
    rw [ref01_SameCubes.l0, if_pos (by simp only [decide_eq_true_eq]; omega), idx_nat h1, inc n (by omega)]
    simp only [Option.bind_some, (cellsEq_cube _ _).2 rfl, Bool.not_true, Bool.false_eq_true, if_false]
    exact SameCubes_l0 k l r (n + 1) m (by omega) (by omega) hl
theorem SameCubes_refl {k : Nat} {l : List TCube} (h : l.length < k) (h2 : l.length < 2 ^ 62) : ref01_SameCubes k l l = some true := by
  unfold ref01_SameCubes
  rw [if_neg (by simp), show (0 : Int) = ((0 : Nat) : Int) from rfl, SameCubes_l0 k l l.length 0 k (by omega) h h2]
  rfl
theorem count_l0 {k : Nat} (hk : 12 < k) {u : Arr 12} (hu : RG u) {l : List TCube} (hl : ∀ x ∈ l, RC x) : ∀ (r n m c : Nat), n + r = l.length → r < m → l.length < 2 ^ 60 → c ≤ n →
    law02_CubeSets.l0 k u l m (c : Int) (n : Int) = some ((c + cnt u (l.drop n) : Nat) : Int)
  | r, n, 0, _, _, h, _, _ => by omega
  | 0, n, m + 1, c, hn, _, _, _ => by
    rw [law02_CubeSets.l0, if_neg (by simp only [decide_eq_true_eq]; omega), List.drop_of_length_le (by omega)]
    rfl
  | r + 1, n, m + 1, c, hn, hr, h62, hc => by
    have h1 : n < l.length := by omega
    have hx := hl l[n] (List.getElem_mem h1)
    rw [law02_CubeSets.l0, if_pos (by simp only [decide_eq_true_eq]; omega), idx_nat h1, inc n (by omega), inc c (by omega)]
    simp only [Option.bind_some, cube_Has_at hk hx hu]
    have e : cnt u (l.drop n) = (hasC l[n] u).toNat + cnt u (l.drop (n + 1)) := by
      rw [List.drop_eq_getElem_cons h1, ← cnt_one, ← cnt_append]; rfl
    cases hh : hasC l[n] u
    · simp only [Bool.false_eq_true, if_false, Option.bind_some]
      rw [count_l0 hk hu hl r (n + 1) m c (by omega) (by omega) h62 (by omega), e, hh]
      simp
    · simp only [if_true, Option.bind_some]
      rw [count_l0 hk hu hl r (n + 1) m (c + 1) (by omega) (by omega) h62 (by omega), e, hh]
      simp [Nat.add_assoc]
theorem answers_ok : law02_answers 1000 = some true := by kernel_rfl
theorem law_CubeSets {c d : TCube} {u : Arr 12} (hc : RC c) (hd : RC d) (hu : RG u) : law02_CubeSets 1000 c d u = some true := by
  have k1 : 12 < 1000 := by decide
  have k2 : 300 < 1000 := by decide
  have hlen := lessC_len c d
  have hm : RC (meetC c d).1 := meetC_RC c d
  have hcount := count_l0 k1 hu (lessC_RC hc (d := d)) (lessC c d).length 0 1000 0 (by omega) (by omega) (by omega) (by omega)
  rw [List.drop_zero, cnt_less hc hd hu, Nat.zero_add, show ((0 : Nat) : Int) = 0 from rfl] at hcount
  have hsame := SameCubes_refl (k := 1000) (l := lessC c d) (by omega) (by omega)
  have hcube : ref01_Cube 1000 d = some (Sb d) := by unfold ref01_Cube; rw [ref01_Text_at (by decide) hd]; rfl
  unfold law02_CubeSets
  simp only [cube_Meet_at k1 hc hd, ref01_Meet_eq k2 hc hd, cube_Less_at (show 64 < 1000 by decide) hc hd, Option.bind_some, hcount, ref01_Has_eq k2 hc hu, ref01_Has_eq k2 hd hu, hcube, answers_ok, if_true,
    cube_Has_at k1 hc hu, BEq.rfl, (cellsEq_cube _ _).2 rfl, cube_Has_at k1 hm hu, cube_Within_at k1 hc hd, ref01_Within_at k1, ref01_Less_eq k2 hc hd, hsame]
  have hx : (if (hasC c u && !hasC d u) = true then some (Sb d) else some false) = some ((hasC c u && !hasC d u) && Sb d) := by cases hasC c u && !hasC d u <;> simp
  have hy : ∀ b : Bool, (if b = true then some (1 : Int) else some 0) = some ((b.toNat : Nat) : Int) := fun b => by cases b <;> rfl
  simp only [hx, Option.bind_some, hy, BEq.rfl]
  unfold meetC
  cases hmm : meets c d
  · simp only [Bool.false_eq_true, if_false]
    cases h1 : hasC c u
    · simp
    · cases h2 : hasC d u
      · simp
      · rw [meets_of_has hc hd hu h1 h2] at hmm; cases hmm
  · simp only [if_true, has_meet hc hd hu hmm]
    cases hasC c u <;> cases hasC d u <;> simp
end Go.Proofs.Ytangebngeeamoaa
