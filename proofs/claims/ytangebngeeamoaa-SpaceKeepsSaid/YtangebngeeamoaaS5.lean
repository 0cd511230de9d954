/- The plain laws of SpaceIs, SpaceAll and SpaceLaws. -/
import Derived.Test.YtangebngeeamoaaS4
set_option linter.unusedVariables false
set_option linter.unusedSimpArgs false
set_option maxRecDepth 100000
namespace Go.Proofs.Ytangebngeeamoaa
open Go.RowKit Go.Pod

theorem SameCubes_l0 (k : Nat) (l : List TCube) : ∀ (r n m : Nat), n + r = l.length → r < m → l.length < 2 ^ 62 → ref01_SameCubes.l0 k l l m (n : Int) = some (.brk ())
  | r, n, 0, _, h, _ => by omega
  | 0, n, m + 1, hn, _, _ => by
    rw [ref01_SameCubes.l0, if_neg (by simp only [decide_eq_true_eq]; omega)]
  | r + 1, n, m + 1, hn, hr, hl => by
    have h1 : n < l.length := by omega
    rw [ref01_SameCubes.l0, if_pos (by simp only [decide_eq_true_eq]; omega), idx_nat h1, inc n (by omega)]
    simp only [Option.bind_some, (cellsEq_cube _ _).2 rfl, Bool.not_true, Bool.false_eq_true, if_false]
    exact SameCubes_l0 k l r (n + 1) m (by omega) (by omega) hl
theorem SameCubes_refl {k : Nat} {l : List TCube} (h : l.length < k) (h2 : l.length < 2 ^ 62) : ref01_SameCubes k l l = some true := by
  unfold ref01_SameCubes
  rw [if_neg (by simp), show (0 : Int) = ((0 : Nat) : Int) from rfl, SameCubes_l0 k l l.length 0 k (by omega) h h2]
  rfl
theorem ref01_Space_l0 (k : Nat) {s : List TCube} (hk : 64 < k) (hs : RCs s) (hl : s.length < 2 ^ 60) : ∀ (r n m : Nat), n + r = s.length → r < m →
    ref01_Space.l0 k s m (n : Int) = some (if (s.drop n).all Sb then .brk () else .ret false)
  | r, n, 0, _, h => by omega
  | 0, n, m + 1, hn, _ => by
    rw [ref01_Space.l0, if_neg (by simp only [decide_eq_true_eq]; omega), List.drop_eq_nil_of_le (by omega)]; rfl
  | r + 1, n, m + 1, hn, hm => by
    have h : n < s.length := by omega
    rw [ref01_Space.l0, if_pos (by simp only [decide_eq_true_eq]; omega), idx_nat h, Option.bind_some, ref01_Cube_at hk (hs _ (List.getElem_mem h)), Option.bind_some, List.drop_eq_getElem_cons h, List.all_cons]
    cases Sb s[n]
    · simp
    · simp only [Bool.not_true, Bool.false_eq_true, if_false, Bool.true_and]
      rw [inc n (by omega)]
      exact ref01_Space_l0 k hk hs hl r (n + 1) m (by omega) (by omega)
theorem ref01_Space_at {k : Nat} (hk : 64 < k) {s : List TCube} (hs : RCs s) (hl : s.length < k) (hl2 : s.length < 2 ^ 60) : ref01_Space k s = some (soundS s) := by
  unfold ref01_Space soundS
  have := ref01_Space_l0 k hk hs hl2 s.length 0 k (by omega) hl
  rw [show ((0 : Nat) : Int) = 0 from rfl, List.drop_zero] at this
  rw [this]
  have e : decide ((s.length : Int) ≤ 64) = decide (s.length ≤ 64) := by rw [Bool.eq_iff_iff, decide_eq_true_eq, decide_eq_true_eq]; omega
  cases s.all Sb
  · simp
  · simp [e]
theorem SpaceIs_l0 (k : Nat) {s : List TCube} {u : Arr 12} (hk : 300 < k) (hs : RCs s) (hu : RG u) (hl : s.length < 2 ^ 60) : ∀ (r n m : Nat) (b : Bool), n + r = s.length → r < m →
    law03_SpaceIs.l0 k s u m b (n : Int) = some (b || hasS (s.drop n) u)
  | r, n, 0, _, _, h => by omega
  | 0, n, m + 1, b, hn, _ => by
    rw [law03_SpaceIs.l0, if_neg (by simp only [decide_eq_true_eq]; omega), List.drop_eq_nil_of_le (by omega)]
    simp [hasS]
  | r + 1, n, m + 1, b, hn, hm => by
    have h : n < s.length := by omega
    have e : hasS (s.drop n) u = (hasC s[n] u || hasS (s.drop (n + 1)) u) := by
      rw [List.drop_eq_getElem_cons h]; rfl
    rw [law03_SpaceIs.l0, if_pos (by simp only [decide_eq_true_eq]; omega), e, inc n (by omega)]
    cases b
    · simp only [Bool.false_eq_true, if_false, idx_nat h, Option.bind_some, ref01_Has_eq hk (hs _ (List.getElem_mem h)) hu, Bool.false_or]
      exact SpaceIs_l0 k hk hs hu hl r (n + 1) m _ (by omega) (by omega)
    · simp only [if_true, Option.bind_some, Bool.true_or]
      rw [SpaceIs_l0 k hk hs hu hl r (n + 1) m _ (by omega) (by omega)]; simp
theorem law_SpaceIs {s : List TCube} {u : Arr 12} (hs : RCs s) (hu : RG u) : law03_SpaceIs 20001 s u = some true := by
  have hk : 20000 < 20001 := by decide
  generalize 20001 = k at hk ⊢
  unfold law03_SpaceIs
  by_cases h70 : 70 < s.length
  · rw [if_pos (by simp only [decide_eq_true_eq]; omega), answers3 hk]; rfl
  · rw [if_neg (by simp only [decide_eq_true_eq]; omega)]
    have hl := leanC_len s
    have h0 := SpaceIs_l0 k (by omega) hs hu (by omega) s.length 0 k false (by omega) (by omega)
    rw [show ((0 : Nat) : Int) = 0 from rfl, List.drop_zero, Bool.false_or] at h0
    rw [app_some (by simp only [List.length_nil]; omega), Option.bind_some, List.nil_append, space_Lean_at (by omega) hs (by omega) (by omega), Option.bind_some, h0, Option.bind_some, answers3 hk, Option.bind_some, if_pos rfl,
      space_Sound_at (by omega) hs, Option.bind_some, ref01_Space_at (by omega) hs (by omega) (by omega), Option.bind_some, beq_self_eq_true, Option.bind_some, if_pos rfl,
      space_Has_at (by omega) hs hu (by omega) (by omega), Option.bind_some, beq_self_eq_true, Option.bind_some, if_pos rfl,
      ref01_Lean_at (by omega) hs (by omega) (by omega), Option.bind_some, SameCubes_refl (by omega) (by omega), Option.bind_some, Option.bind_some, if_pos rfl,
      space_Has_at (by omega) (leanC_SDs hs).rc hu (by omega) (by omega), Option.bind_some, hasS_lean hs hu, beq_self_eq_true]
    rfl
theorem few_at (s : List TCube) : law03_few s = some (decide (s.length ≤ 8)) := by
  unfold law03_few
  congr 1
  rw [Bool.eq_iff_iff, decide_eq_true_eq, decide_eq_true_eq]; omega
theorem law_SpaceAll {s : List TCube} (hs : RCs s) : law03_SpaceAll 20001 s = some true := by
  have hk : 20000 < 20001 := by decide
  generalize 20001 = k at hk ⊢
  unfold law03_SpaceAll
  rw [few_at, Option.bind_some]
  by_cases h8 : s.length ≤ 8
  · simp only [h8, decide_true, Bool.not_true, Bool.false_eq_true, if_false]
    rw [ref01_Space_at (by omega) hs (by omega) (by omega), Option.bind_some]
    cases hsd : soundS s
    · simp only [Bool.not_false, if_true, Option.bind_some]
      rw [answers3 hk]; rfl
    · simp only [Bool.not_true, Bool.false_eq_true, if_false, Option.bind_some]
      have hz := SDs_zero.rc
      have hl64 := @lessS_len [TCube.zero] s
      have hlR := lessS_RC hz hs
      rw [space_Less_at hk hz hs, Option.bind_some]
      have hw : IntKind.i64.wrap (((lessS [TCube.zero] s).1.length : Int) + (s.length : Int)) = (lessS [TCube.zero] s).1.length + s.length := wrapI (by omega) (by omega)
      rw [hw]
      by_cases he : (lessS [TCube.zero] s).2 = 0
      · by_cases h64 : 64 < (lessS [TCube.zero] s).1.length + s.length
        · rw [if_pos (by simp only [Bool.or_eq_true, decide_eq_true_eq]; exact .inr (by omega)), answers3 hk]; rfl
        · rw [if_neg (by simp only [Bool.or_eq_true, decide_eq_true_eq, he]; simp; omega)]
          obtain ⟨h1, h2, _⟩ := lessS_spec hz hs he
          have hb : RCs ((lessS [TCube.zero] s).1 ++ s) := fun c hc => by
            rcases List.mem_append.1 hc with hc | hc
            · exact hlR c hc
            · exact hs c hc
          have hwith := within_all hz hb fun u hu => by
            rw [hasS_append, h2 u hu]
            cases hasS [TCube.zero] u <;> cases hasS s u <;> rfl
          have hap := apart hlR hs fun u hu => by
            rw [h2 u hu]
            cases hasS [TCube.zero] u <;> cases hasS s u <;> rfl
          rw [app_some (by simp only [List.length_nil]; omega), Option.bind_some, List.nil_append, app_some (by omega), Option.bind_some, space_Within_at hk hz hb, Option.bind_some, answers3 hk, Option.bind_some]
          simp only [hwith, Bool.and_self, if_true]
          rw [space_Touch_at (by omega) hlR hs (by omega) (by omega) (by omega) (by omega), hap]
          rfl
      · rw [if_pos (by simp only [Bool.or_eq_true]; exact .inl (by simpa using he)), answers3 hk]; rfl
  · simp only [h8, decide_false, Bool.not_false, if_true, Option.bind_some]
    rw [answers3 hk]; rfl
theorem law_SpaceLaws {a b : List TCube} (ha : RCs a) (hb : RCs b) : law03_SpaceLaws 20001 a b = some true := by
  have hk : 20000 < 20001 := by decide
  generalize 20001 = k at hk ⊢
  unfold law03_SpaceLaws
  rw [few_at, Option.bind_some, few_at]
  by_cases h8 : a.length ≤ 8
  · by_cases h8b : b.length ≤ 8
    · simp only [h8, h8b, decide_true, Bool.not_true, Bool.false_eq_true, if_false, Option.bind_some]
      have hl64 := @lessS_len a b
      have hm64 := @meetS_len a b
      have hlR := lessS_RC ha hb
      rw [space_Meet_at hk ha hb, Option.bind_some, space_Less_at hk ha hb, Option.bind_some]
      have hw : IntKind.i64.wrap (((meetS a b).1.length : Int) + ((lessS a b).1.length : Int)) = (meetS a b).1.length + (lessS a b).1.length := wrapI (by omega) (by omega)
      rw [hw]
      by_cases he : (meetS a b).2 = 0
      · by_cases he2 : (lessS a b).2 = 0
        · by_cases h64 : 64 < (meetS a b).1.length + (lessS a b).1.length
          · rw [if_pos (by simp only [Bool.or_eq_true, decide_eq_true_eq]; exact .inr (by omega)), answers3 hk]; rfl
          · rw [if_neg (by simp only [Bool.or_eq_true, decide_eq_true_eq, he, he2]; simp; omega)]
            obtain ⟨h1, h2, _⟩ := lessS_spec ha hb he2
            obtain ⟨h3, h4⟩ := meetS_spec ha hb he
            have hB : RCs ((meetS a b).1 ++ (lessS a b).1) := fun c hc => by
              rcases List.mem_append.1 hc with hc | hc
              · exact (h3 c hc).rc
              · exact hlR c hc
            have hw1 := within_all ha hB fun u hu => by
              rw [hasS_append, h2 u hu, h4 u hu]
              cases hasS a u <;> cases hasS b u <;> rfl
            have hw2 := within_all hB ha fun u hu => by
              rw [hasS_append, h2 u hu, h4 u hu]
              cases hasS a u <;> cases hasS b u <;> rfl
            have hap := apart hlR hb fun u hu => by
              rw [h2 u hu]
              cases hasS a u <;> cases hasS b u <;> rfl
            rw [app_some (by simp only [List.length_nil]; omega), Option.bind_some, List.nil_append, app_some (by omega), Option.bind_some, space_Within_at hk ha hB, Option.bind_some, space_Within_at hk hB ha, Option.bind_some, answers3 hk, Option.bind_some, if_pos rfl,
              space_Touch_at (by omega) hlR hb (by omega) (by omega) (by omega) (by omega), hap]
            simp only [Option.bind_some, Bool.not_false, hw1, hw2, Bool.and_self, if_true]
            rw [space_Touch_at (by omega) ha hb (by omega) (by omega) (by omega) (by omega), Option.bind_some, nonempty_touch ha hb he, beq_self_eq_true]
            rfl
        · rw [if_pos (by simp only [Bool.or_eq_true]; exact .inl (.inr (by simpa using he2))), answers3 hk]; rfl
      · rw [if_pos (by simp only [Bool.or_eq_true]; exact .inl (.inl (by simpa using he))), answers3 hk]; rfl
    · simp only [h8, h8b, decide_true, decide_false, Bool.not_true, Bool.not_false, Bool.false_eq_true, if_false, if_true, Option.bind_some]
      rw [answers3 hk]; rfl
  · simp only [h8, decide_false, Bool.not_false, if_true, Option.bind_some]
    rw [answers3 hk]; rfl
end Go.Proofs.Ytangebngeeamoaa
