/- Plain laws on lists of cubes: the document's Lean. -/
import Derived.Test.YtangebngeeamoaaS2
set_option linter.unusedVariables false
set_option linter.unusedSimpArgs false
set_option maxRecDepth 100000
namespace Go.Proofs.Ytangebngeeamoaa
open Go.RowKit Go.Pod

theorem ref01_Cube_at {k : Nat} (hk : 64 < k) {c : TCube} (hc : RC c) : ref01_Cube k c = some (Sb c) := by
  unfold ref01_Cube
  rw [ref01_Text_at hk hc]; rfl
theorem ref01_Order_l0 (k : Nat) (a b : Arr 12) : ∀ (r n m : Nat), n + r = 12 → r < m →
    ref01_Order.l0 k a b m (n : Int) = some (if cmpL ((A12u64.list a).drop n) ((A12u64.list b).drop n) = 0 then .brk () else .ret (cmpL ((A12u64.list a).drop n) ((A12u64.list b).drop n)))
  | r, n, 0, _, h => by omega
  | 0, n, m + 1, hn, _ => by
    obtain rfl : n = 12 := by omega
    rw [ref01_Order.l0, if_neg (by decide)]; rfl
  | r + 1, n, m + 1, hn, hm => by
    have h : n < 12 := by omega
    have e : ∀ x : Arr 12, (A12u64.list x).drop n = x.at (n : Int) :: (A12u64.list x).drop (n + 1) := fun x => by
      match n, h with
      | 0, _ | 1, _ | 2, _ | 3, _ | 4, _ | 5, _ | 6, _ | 7, _ | 8, _ | 9, _ | 10, _ | 11, _ => rfl
    rw [ref01_Order.l0, if_pos (by simp only [decide_eq_true_eq]; omega), if_pos (by omega), e a, e b, cmpL]
    by_cases h1 : a.at (n : Int) < b.at (n : Int)
    · simp [h1]
    · by_cases h2 : b.at (n : Int) < a.at (n : Int)
      · simp [h1, h2]
      · simp only [h1, h2, if_false, decide_false, Bool.false_eq_true]
        rw [inc n (by omega)]
        exact ref01_Order_l0 k a b r (n + 1) m (by omega) (by omega)
theorem ref01_Order_at {k : Nat} (hk : 12 < k) (a b : Arr 12) : ref01_Order k a b = some (cmpL (A12u64.list a) (A12u64.list b)) := by
  unfold ref01_Order
  have := ref01_Order_l0 k a b 12 0 k rfl hk
  rw [show ((0 : Nat) : Int) = 0 from rfl, List.drop_zero, List.drop_zero] at this
  rw [this]
  by_cases h : cmpL (A12u64.list a) (A12u64.list b) = 0
  · rw [if_pos h, h]; rfl
  · rw [if_neg h]; rfl
theorem ref01_Compare_at {k : Nat} (hk : 12 < k) (a b : TCube) : ref01_Compare k a b = some (cc a b) := by
  unfold ref01_Compare
  rw [ref01_Order_at hk, Option.bind_some, ref01_Order_at hk]
  unfold cc keyC
  rw [cmpL_app (A12u64.list a.Care) (A12u64.list b.Care) _ _ rfl]
  by_cases h : cmpL (A12u64.list a.Care) (A12u64.list b.Care) = 0
  · rw [if_pos h, if_neg (by simp [h])]; rfl
  · rw [if_neg h, if_pos (by simpa using h)]
/-- Is a cube not needed because of the j-th? -/
def bad (s : List TCube) (i : Nat) (c : TCube) (j : Nat) : Bool := match s[j]? with
  | some d => decide (j ≠ i) && (wC c d && (Sb c && Sb d)) && (!decide (d = c) || decide (j < i))
  | none => false
theorem refLean_l1 (k : Nat) (hk : 12 < k) {s : List TCube} {i : Nat} {c : TCube} (hl : s.length < 2 ^ 60) : ∀ (r n m : Nat) (b : Bool), n + r = s.length → r < m →
    ref01_Lean.l1 k s (i : Int) c m b (n : Int) = some (b && (List.range' n r).all fun j => !bad s i c j)
  | r, n, 0, _, _, h => by omega
  | 0, n, m + 1, b, hn, _ => by
    rw [ref01_Lean.l1, if_neg (by simp only [Bool.and_eq_true, decide_eq_true_eq]; omega)]
    simp
  | r + 1, n, m + 1, false, hn, _ => by
    rw [ref01_Lean.l1, if_neg (by simp)]
    simp
  | r + 1, n, m + 1, true, hn, hm => by
    have h : n < s.length := by omega
    have eb : bad s i c n = (decide (n ≠ i) && (wC c s[n] && (Sb c && Sb s[n])) && (!decide (s[n] = c) || decide (n < i))) := by
      unfold bad
      rw [List.getElem?_eq_getElem h]
    have e1 : ((n : Int) != (i : Int)) = decide (n ≠ i) := by
      rw [Bool.eq_iff_iff, bne_iff_ne, decide_eq_true_eq]
      omega
    have e2 : decide ((n : Int) < (i : Int)) = decide (n < i) := by
      rw [Bool.eq_iff_iff, decide_eq_true_eq, decide_eq_true_eq]; omega
    have ih := fun b => refLean_l1 k hk (s := s) (i := i) (c := c) hl r (n + 1) m b (by omega) (by omega)
    rw [ref01_Lean.l1, if_pos (by simp only [Bool.and_true, decide_eq_true_eq]; omega), List.range'_succ, List.all_cons, eb, e1, e2, inc n (by omega)]
    simp only [idx_nat h, Option.bind_some, ref01_Within_at hk, cellsEq_dec]
    show (((if decide (n ≠ i) then some (wC c s[n] && (Sb c && Sb s[n])) else some false).bind _).bind _) = _
    cases decide (n ≠ i)
    · simp only [Bool.false_eq_true, if_false, Option.bind_some, Bool.false_and, Bool.not_false, Bool.true_and]
      rw [ih]; simp
    · simp only [if_true, Option.bind_some, Bool.true_and]
      cases wC c s[n] && (Sb c && Sb s[n])
      · simp only [Bool.false_eq_true, if_false, Option.bind_some, Bool.false_and, Bool.not_false, Bool.true_and]
        rw [ih]; simp
      · simp only [if_true, Option.bind_some, Bool.true_and]
        cases !decide (s[n] = c) || decide (n < i)
        · simp only [Bool.false_eq_true, if_false, Option.bind_some, Bool.not_false, Bool.true_and]
          rw [ih]; simp
        · simp only [if_true, Option.bind_some, Bool.not_true, Bool.false_and]
          rw [ih]; simp
theorem set_swap {α : Type} (pre post : List α) (d c : α) : ((pre ++ d :: c :: post).set (pre.length + 1) d).set pre.length c = pre ++ c :: d :: post := by
  rw [List.set_append_right _ _ (by omega), List.set_append_right _ _ (by omega)]
  simp
theorem refLean_l2 (k : Nat) (hk : 12 < k) {c : TCube} : ∀ (n : Nat) (pre post : List TCube) (m : Nat), pre.length = n → n < m → n + post.length < 2 ^ 60 →
    ∃ p1 p2, pre = p1 ++ p2 ∧ ref01_Lean.l2 k m (pre ++ c :: post) (n : Int) = some (p1 ++ c :: (p2 ++ post)) ∧ (∀ d ∈ p2, ltC c d) ∧ (∀ d, p1.getLast? = some d → ¬ ltC c d)
  | n, pre, post, 0, _, h, _ => by omega
  | 0, pre, post, m + 1, hn, _, _ => by
    obtain rfl : pre = [] := List.eq_nil_of_length_eq_zero hn
    refine ⟨[], [], rfl, ?_, by simp, by simp⟩
    rw [ref01_Lean.l2]
    rfl
  | n + 1, pre, post, m + 1, hn, hm, hl => by
    obtain ⟨q, d, rfl⟩ : ∃ q d, pre = q ++ [d] := by
      refine ⟨pre.dropLast, pre.getLast (fun h => by rw [h] at hn; simp at hn), (List.dropLast_concat_getLast _).symm⟩
    have hq : q.length = n := by simpa using hn
    have e0 : q ++ [d] ++ c :: post = q ++ d :: c :: post := by simp
    have hlen : (q ++ d :: c :: post).length = n + 2 + post.length := by simp [hq]; omega
    have g1 : idx (q ++ d :: c :: post) ((n + 1 : Nat) : Int) = some c := by
      rw [idx_nat (by omega), ← List.getElem?_eq_getElem, List.getElem?_append_right (by omega), hq]; simp
    have w1 : IntKind.i64.wrap (((n + 1 : Nat) : Int) - 1) = (n : Int) := by rw [wrapI (by omega) (by omega)]; omega
    have g2 : idx (q ++ d :: c :: post) (n : Int) = some d := by
      rw [idx_nat (by omega), ← List.getElem?_eq_getElem, List.getElem?_append_right (by omega), hq]; simp
    have g3 : ∃ z, idx ((q ++ d :: c :: post).set (n + 1) d) (n : Int) = some z := by
      rw [idx_nat (by rw [List.length_set]; omega)]; exact ⟨_, rfl⟩
    obtain ⟨z, g3⟩ := g3
    rw [e0, ref01_Lean.l2, if_pos (by simp only [decide_eq_true_eq]; omega), w1]
    simp only [g1, g2, Option.bind_some, ref01_Compare_at hk, Int.toNat_natCast]
    by_cases h : cc c d < 0
    · simp only [h, decide_true, if_true]
      rw [g3]
      simp only [Option.bind_some]
      have es := set_swap q post d c
      rw [hq] at es
      rw [es]
      obtain ⟨p1, p2, h1, h2, h3, h4⟩ := refLean_l2 k hk (c := c) n q (d :: post) m hq (by omega) (by simp; omega)
      refine ⟨p1, p2 ++ [d], by rw [h1, List.append_assoc], ?_, fun x hx => ?_, h4⟩
      · rw [h2]; simp
      · rcases List.mem_append.1 hx with hx | hx
        · exact h3 x hx
        · rw [List.mem_singleton] at hx; subst hx; exact h
    · simp only [h, decide_false, Bool.false_eq_true, if_false]
      refine ⟨q ++ [d], [], by simp, by simp, by simp, fun x hx => ?_⟩
      rw [List.getLast?_concat] at hx
      cases hx
      exact h
def kept (s : List TCube) (j : Nat) (c : TCube) : Bool := Sb c && (List.range' 0 s.length).all fun i => !bad s j c i
theorem kept_not {s : List TCube} {i j : Nat} {c : TCube} (hc : RC c) (hi : s[i]? = some c) (hj : s[j]? = some c) (hlt : i < j) : kept s j c = false := by
  unfold kept
  cases hb : Sb c
  · rfl
  · rw [Bool.true_and, List.all_eq_false]
    refine ⟨i, ?_, ?_⟩
    · rw [List.mem_range'_1]
      have := (List.getElem?_eq_some_iff.1 hi).1
      omega
    · unfold bad
      rw [hi]
      simp only [wC_refl hc, hb, decide_true, Bool.not_true, Bool.false_or, Bool.and_true, hlt]
      have : i ≠ j := by omega
      simp [this]
theorem refLean_l0 (k : Nat) {s : List TCube} (hk : 64 < k) (hs : ∀ c ∈ s, RC c) (hl : s.length < k) (hl2 : s.length ≤ 100000) : ∀ (r n m : Nat) (out : List TCube), n + r = s.length → r < m → out.length ≤ n →
    out.Pairwise ltC → (∀ x, x ∈ out ↔ ∃ j, j < n ∧ s[j]? = some x ∧ kept s j x = true) →
    ∃ o, ref01_Lean.l0 k s m out (n : Int) = some o ∧ o.length ≤ s.length ∧ o.Pairwise ltC ∧ ∀ x, x ∈ o ↔ ∃ j, s[j]? = some x ∧ kept s j x = true
  | r, n, 0, _, _, h, _, _, _ => by omega
  | 0, n, m + 1, out, hn, _, ho, hp, hm' => by
    refine ⟨out, ?_, by omega, hp, fun x => ?_⟩
    · rw [ref01_Lean.l0, if_neg (by simp only [decide_eq_true_eq]; omega)]
    · rw [hm' x]
      exact ⟨fun ⟨j, _, h⟩ => ⟨j, h⟩, fun ⟨j, h⟩ => ⟨j, by have := (List.getElem?_eq_some_iff.1 h.1).1; omega, h⟩⟩
  | r + 1, n, m + 1, out, hn, hm, ho, hp, hmem => by
    have h : n < s.length := by omega
    have hg : s[n]? = some s[n] := List.getElem?_eq_getElem h
    have hc := hs _ (List.getElem_mem h)
    have hk1 := refLean_l1 k (by omega) (s := s) (i := n) (c := s[n]) (by omega) s.length 0 k (Sb s[n]) (by omega) hl
    rw [show ((0 : Nat) : Int) = 0 from rfl] at hk1
    rw [ref01_Lean.l0, if_pos (by simp only [decide_eq_true_eq]; omega), idx_nat h, Option.bind_some, ref01_Cube_at hk hc, Option.bind_some, hk1, Option.bind_some]
    show ∃ o, ((if (!kept s n s[n]) = true then some out else _).bind _) = some o ∧ _
    cases hkp : kept s n s[n]
    · simp only [Bool.not_false, if_true, Option.bind_some]
      rw [inc n (by omega)]
      refine refLean_l0 k hk hs hl hl2 r (n + 1) m out (by omega) (by omega) (by omega) hp fun x => ?_
      rw [hmem x]
      refine ⟨fun ⟨j, h1, h2⟩ => ⟨j, by omega, h2⟩, fun ⟨j, h1, h2, h3⟩ => ⟨j, ?_, h2, h3⟩⟩
      rcases Nat.lt_or_ge j n with h4 | h4
      · exact h4
      · obtain rfl : j = n := by omega
        rw [hg] at h2
        cases h2
        rw [hkp] at h3; cases h3
    · simp only [Bool.not_true, Bool.false_eq_true, if_false]
      rw [app_some (by rw [List.length_singleton]; omega), Option.bind_some]
      have e1 : IntKind.i64.wrap (((out ++ [s[n]]).length : Int) - 1) = (out.length : Int) := by
        rw [List.length_append, List.length_singleton, wrapI (by omega) (by omega)]; omega
      rw [e1]
      obtain ⟨p1, p2, h1, h2, h3, h4⟩ := refLean_l2 k (by omega) (c := s[n]) out.length out [] k rfl (by omega) (by simp; omega)
      rw [h2]
      simp only [Option.bind_some, List.append_nil]
      rw [inc n (by omega)]
      have hnot : s[n] ∉ out := fun hin => by
        obtain ⟨j, hj, hj2, hj3⟩ := (hmem _).1 hin
        rw [kept_not hc hj2 hg hj] at hkp
        cases hkp
      have hmemN : ∀ x, x ∈ p1 ++ s[n] :: p2 ↔ x ∈ out ∨ x = s[n] := fun x => by
        rw [h1]
        simp only [List.mem_append, List.mem_cons]
        constructor
        · rintro (a | a | a)
          · exact .inl (.inl a)
          · exact .inr a
          · exact .inl (.inr a)
        · rintro ((a | a) | a)
          · exact .inl a
          · exact .inr (.inr a)
          · exact .inr (.inl a)
      refine refLean_l0 k hk hs hl hl2 r (n + 1) m _ (by omega) (by omega) ?_ ?_ fun x => ?_
      · have : out.length = p1.length + p2.length := by rw [h1, List.length_append]
        rw [List.length_append, List.length_cons]; omega
      · rw [h1] at hp hnot
        rw [List.pairwise_append] at hp
        rw [List.pairwise_append, List.pairwise_cons]
        have hlow : ∀ x ∈ p1, ltC x s[n] := fun x hx => by
          obtain ⟨q, d, rfl⟩ : ∃ q d, p1 = q ++ [d] := by
            refine ⟨p1.dropLast, p1.getLast (fun h => by rw [h] at hx; cases hx), (List.dropLast_concat_getLast _).symm⟩
          have hd := h4 d (List.getLast?_concat ..)
          have hd2 : ltC d s[n] := by
            have hne : d ≠ s[n] := fun e => hnot (by rw [← e]; simp)
            unfold ltC at hd ⊢
            have := cc_anti d s[n]
            rcases Int.lt_trichotomy (cc d s[n]) 0 with h5 | h5 | h5
            · exact h5
            · exact absurd (cc_zero h5) hne
            · omega
          rcases List.mem_append.1 hx with h5 | h5
          · exact ltC.trans ((List.pairwise_append.1 hp.1).2.2 x h5 d (by simp)) hd2
          · rw [List.mem_singleton] at h5; subst h5; exact hd2
        refine ⟨hp.1, ⟨h3, hp.2.1⟩, fun x hx y hy => ?_⟩
        rcases List.mem_cons.1 hy with h5 | h5
        · subst h5; exact hlow x hx
        · exact hp.2.2 x hx y h5
      · rw [hmemN, hmem x]
        constructor
        · rintro (⟨j, h5, h6⟩ | rfl)
          · exact ⟨j, by omega, h6⟩
          · exact ⟨n, by omega, hg, hkp⟩
        · rintro ⟨j, h5, h6, h7⟩
          rcases Nat.lt_or_ge j n with h8 | h8
          · exact .inl ⟨j, h8, h6, h7⟩
          · obtain rfl : j = n := by omega
            rw [hg] at h6
            exact .inr (Option.some.inj h6).symm
theorem first_at {x : TCube} : ∀ {s : List TCube}, x ∈ s → ∃ j : Nat, s[j]? = some x ∧ ∀ i : Nat, i < j → s[i]? ≠ some x
  | [], h => by cases h
  | y :: s, h => by
    by_cases e : y = x
    · exact ⟨0, by simp [e], fun i hi => by omega⟩
    · have h' : x ∈ s := by
        rcases List.mem_cons.1 h with h | h
        · exact absurd h.symm e
        · exact h
      obtain ⟨j, h1, h2⟩ := first_at h'
      refine ⟨j + 1, by simpa using h1, fun i hi => ?_⟩
      match i with
      | 0 => simpa using e
      | i + 1 => simpa using h2 i (by omega)
theorem mem_kept {s : List TCube} (hs : ∀ c ∈ s, RC c) {x : TCube} : (∃ j, s[j]? = some x ∧ kept s j x = true) ↔ x ∈ leanC s := by
  rw [mem_leanC]
  constructor
  · rintro ⟨j, h1, h2⟩
    unfold kept at h2
    rw [Bool.and_eq_true_iff, List.all_eq_true] at h2
    refine ⟨List.mem_of_getElem? h1, h2.1, fun d hd hb hw => ?_⟩
    obtain ⟨i, hi⟩ := List.mem_iff_getElem?.1 hd
    by_cases e : d = x
    · exact e
    · have hij : i ≠ j := fun e' => by subst e'; rw [h1] at hi; exact e (Option.some.inj hi).symm
      have := h2.2 i (by rw [List.mem_range'_1]; have := (List.getElem?_eq_some_iff.1 hi).1; omega)
      unfold bad at this
      rw [hi] at this
      simp [hij, hw, h2.1, hb, e] at this
  · rintro ⟨h1, h2, h3⟩
    obtain ⟨j, hj, hj2⟩ := first_at h1
    refine ⟨j, hj, ?_⟩
    unfold kept
    rw [h2, Bool.true_and, List.all_eq_true]
    intro i hi
    unfold bad
    cases hg : s[i]? with
    | none => rfl
    | some d =>
      simp only
      rw [Bool.not_eq_true', Bool.eq_false_iff]
      intro hh
      simp only [Bool.and_eq_true, Bool.or_eq_true, decide_eq_true_eq, Bool.not_eq_true', decide_eq_false_iff_not] at hh
      obtain ⟨⟨h4, h5, _, h6⟩, h7⟩ := hh
      have e := h3 d (List.mem_of_getElem? hg) h6 h5
      subst e
      rcases h7 with h7 | h7
      · exact h7 rfl
      · exact hj2 i h7 hg
theorem ref01_Lean_at {k : Nat} (hk : 64 < k) {s : List TCube} (hs : ∀ c ∈ s, RC c) (hl : s.length < k) (hl2 : s.length ≤ 100000) : ref01_Lean k s = some (leanC s) := by
  unfold ref01_Lean
  obtain ⟨o, h1, h2, h3, h4⟩ := refLean_l0 k hk hs hl hl2 s.length 0 k [] (by omega) hl (by simp) List.Pairwise.nil (fun x => by simp)
  rw [show ((0 : Nat) : Int) = 0 from rfl] at h1
  rw [h1, Option.bind_some, sorted_one o (leanC s) h3 (leanC_sorted s) fun x => by rw [h4, mem_kept hs]]
end Go.Proofs.Ytangebngeeamoaa
