/- The plain law of RegionOf. -/
import Derived.Test.YtangebngeeamoaaQ6
set_option linter.unusedVariables false
set_option linter.unusedSimpArgs false
set_option maxRecDepth 100000
namespace Go.Proofs.Ytangebngeeamoaa
open Go.RowKit Go.Pod

theorem inc63 (n : Nat) (h : n + 1 < 2 ^ 63) : IntKind.i64.wrap ((n : Int) + 1) = ((n + 1 : Nat) : Int) := by rw [wrapI (by omega) (by omega)]; simp
theorem Cube_at {k : Nat} (hk : 64 < k) {c : TCube} (hc : RC c) : ref01_Cube k c = some (Sb c) := by
  unfold ref01_Cube
  rw [ref01_Text_at hk hc]; rfl
theorem Order_l0 (k : Nat) (a b : Arr 12) : ∀ (r n m : Nat), n + r = 12 → r < m →
    ref01_Order.l0 k a b m (n : Int) = some (if cmpL ((A12u64.list a).drop n) ((A12u64.list b).drop n) = 0 then .brk () else .ret (cmpL ((A12u64.list a).drop n) ((A12u64.list b).drop n)))
  | r, n, 0, _, h => by omega
  | 0, n, m + 1, hn, _ => by
    obtain rfl : n = 12 := by omega
    rw [ref01_Order.l0, if_neg (by decide)]; rfl
  | r + 1, n, m + 1, hn, hm => by
    have h : n < 12 := by omega
    have e : ∀ x : Arr 12, (A12u64.list x).drop n = x.at (n : Int) :: (A12u64.list x).drop (n + 1) := fun x => by
      match n, h with
      | 0, _ | 1, _ | 2, _ | 3, _ | 4, _ | 5, _ | 6, _ | 7, _ | 8, _ | 9, _ | 10, _ | 11, _ => rfl
    rw [ref01_Order.l0, if_pos (by simp only [decide_eq_true_eq]; omega), if_pos (by omega), e a, e b, cmpL]
    by_cases h1 : a.at (n : Int) < b.at (n : Int)
    · simp [h1]
    · by_cases h2 : b.at (n : Int) < a.at (n : Int)
      · simp [h1, h2]
      · simp only [h1, h2, if_false, decide_false, Bool.false_eq_true]
        rw [inc n (by omega)]
        exact Order_l0 k a b r (n + 1) m (by omega) (by omega)
theorem Order_at {k : Nat} (hk : 12 < k) (a b : Arr 12) : ref01_Order k a b = some (cmpL (A12u64.list a) (A12u64.list b)) := by
  unfold ref01_Order
  have := Order_l0 k a b 12 0 k rfl hk
  rw [show ((0 : Nat) : Int) = 0 from rfl, List.drop_zero, List.drop_zero] at this
  rw [this]
  by_cases h : cmpL (A12u64.list a) (A12u64.list b) = 0
  · rw [if_pos h, h]; rfl
  · rw [if_neg h]; rfl
theorem Compare_at {k : Nat} (hk : 12 < k) (a b : TCube) : ref01_Compare k a b = some (cc a b) := by
  unfold ref01_Compare
  rw [Order_at hk, Option.bind_some, Order_at hk]
  unfold cc keyC
  rw [cmpL_app (A12u64.list a.Care) (A12u64.list b.Care) _ _ rfl]
  by_cases h : cmpL (A12u64.list a.Care) (A12u64.list b.Care) = 0
  · rw [if_pos h, if_neg (by simp [h])]; rfl
  · rw [if_neg h, if_pos (by simpa using h)]
/-! ### The document's regions -/
def badR (l : List TChange) (i : Nat) (c : TChange) (j : Nat) : Bool := match l[j]? with
  | some d => (decide (j ≠ i) && (d.Unit == c.Unit)) && (wC c.Mod.Match d.Mod.Match && (Sb c.Mod.Match && Sb d.Mod.Match)) && (!decide (c.Mod.Match = d.Mod.Match) || decide (j < i))
  | none => false
theorem refReg_l1 (k : Nat) (hk : 12 < k) {l : List TChange} {i : Nat} {c : TChange} (hl : l.length < 2 ^ 60) : ∀ (r n m : Nat) (b : Bool), n + r = l.length → r < m →
    ref19_Region.l1 k l (i : Int) c m b (n : Int) = some (b && (List.range' n r).all fun j => !badR l i c j)
  | r, n, 0, _, _, h => by omega
  | 0, n, m + 1, b, hn, _ => by
    rw [ref19_Region.l1, if_neg (by simp only [Bool.and_eq_true, decide_eq_true_eq]; omega)]
    simp
  | r + 1, n, m + 1, false, hn, _ => by
    rw [ref19_Region.l1, if_neg (by simp)]
    simp
  | r + 1, n, m + 1, true, hn, hm => by
    have h : n < l.length := by omega
    have eb : badR l i c n = ((decide (n ≠ i) && (l[n].Unit == c.Unit)) && (wC c.Mod.Match l[n].Mod.Match && (Sb c.Mod.Match && Sb l[n].Mod.Match)) && (!decide (c.Mod.Match = l[n].Mod.Match) || decide (n < i))) := by
      unfold badR
      rw [List.getElem?_eq_getElem h]
    have e1 : ((n : Int) != (i : Int)) = decide (n ≠ i) := by
      rw [Bool.eq_iff_iff, bne_iff_ne, decide_eq_true_eq]
      omega
    have e2 : decide ((n : Int) < (i : Int)) = decide (n < i) := by
      rw [Bool.eq_iff_iff, decide_eq_true_eq, decide_eq_true_eq]; omega
    have ih := fun b => refReg_l1 k hk (l := l) (i := i) (c := c) hl r (n + 1) m b (by omega) (by omega)
    rw [ref19_Region.l1, if_pos (by simp only [Bool.and_true, decide_eq_true_eq]; omega), List.range'_succ, List.all_cons, eb, e1, e2, inc n (by omega)]
    simp only [idx_nat h, Option.bind_some, ref01_Within_at hk, cellsEq_dec]
    show (((if (decide (n ≠ i) && (l[n].Unit == c.Unit)) = true then some (wC c.Mod.Match l[n].Mod.Match && (Sb c.Mod.Match && Sb l[n].Mod.Match)) else some false).bind _).bind _) = _
    cases decide (n ≠ i) && (l[n].Unit == c.Unit)
    · simp only [Bool.false_eq_true, if_false, Option.bind_some, Bool.false_and, Bool.not_false, Bool.true_and]
      rw [ih]; simp
    · simp only [if_true, Option.bind_some, Bool.true_and]
      cases (wC c.Mod.Match l[n].Mod.Match && (Sb c.Mod.Match && Sb l[n].Mod.Match)) && (!decide (c.Mod.Match = l[n].Mod.Match) || decide (n < i))
      · simp only [Bool.false_eq_true, if_false, Option.bind_some, Bool.not_false, Bool.true_and]
        rw [ih]; simp
      · simp only [if_true, Option.bind_some, Bool.not_true, Bool.false_and]
        rw [ih]; simp
theorem set_swap {α : Type} (pre post : List α) (d c : α) : ((pre ++ d :: c :: post).set (pre.length + 1) d).set pre.length c = pre ++ c :: d :: post := by
  rw [List.set_append_right _ _ (by omega), List.set_append_right _ _ (by omega)]
  simp
theorem before_at {k : Nat} (hk : 12 < k) (x y : TRegion) : ((if (decide (x.Unit < y.Unit)) = true then some true
      else ((if (x.Unit == y.Unit) = true then ((ref01_Compare k x.Cube y.Cube).bind fun x117 =>
          some (decide (x117 < 0)))
        else some false).bind fun (x102 : Bool) =>
        some x102)).bind fun (x86 : Bool) =>
      some x86) = some (decide (cr x y < 0)) := by
  have e : cr x y = if x.Unit < y.Unit then -1 else if y.Unit < x.Unit then 1 else cc x.Cube y.Cube := rfl
  rw [Compare_at hk, e]
  by_cases h1 : x.Unit < y.Unit
  · rw [if_pos (by simpa using h1), if_pos h1]; rfl
  · by_cases h2 : y.Unit < x.Unit
    · rw [if_neg (by simpa using h1), if_neg (by simp; omega), if_neg h1, if_pos h2]; rfl
    · rw [if_neg (by simpa using h1), if_pos (by simp; omega), if_neg h1, if_neg h2]; rfl
theorem refReg_l2 (k : Nat) (hk : 12 < k) {c : TRegion} : ∀ (n : Nat) (pre post : List TRegion) (m : Nat), pre.length = n → n < m → n + post.length < 2 ^ 60 →
    ∃ p1 p2, pre = p1 ++ p2 ∧ ref19_Region.l2 k m (pre ++ c :: post) (n : Int) = some (p1 ++ c :: (p2 ++ post)) ∧ (∀ d ∈ p2, ltR c d) ∧ (∀ d, p1.getLast? = some d → ¬ ltR c d)
  | n, pre, post, 0, _, h, _ => by omega
  | 0, pre, post, m + 1, hn, _, _ => by
    obtain rfl : pre = [] := List.eq_nil_of_length_eq_zero hn
    refine ⟨[], [], rfl, ?_, by simp, by simp⟩
    rw [ref19_Region.l2]
    rfl
  | n + 1, pre, post, m + 1, hn, hm, hl => by
    obtain ⟨q, d, rfl⟩ : ∃ q d, pre = q ++ [d] := by
      refine ⟨pre.dropLast, pre.getLast (fun h => by rw [h] at hn; simp at hn), (List.dropLast_concat_getLast _).symm⟩
    have hq : q.length = n := by simpa using hn
    have e0 : q ++ [d] ++ c :: post = q ++ d :: c :: post := by simp
    have hlen : (q ++ d :: c :: post).length = n + 2 + post.length := by simp [hq]; omega
    have g1 : idx (q ++ d :: c :: post) ((n + 1 : Nat) : Int) = some c := by
      rw [idx_nat (by omega), ← List.getElem?_eq_getElem, List.getElem?_append_right (by omega), hq]; simp
    have w1 : IntKind.i64.wrap (((n + 1 : Nat) : Int) - 1) = (n : Int) := by rw [wrapI (by omega) (by omega)]; omega
    have g2 : idx (q ++ d :: c :: post) (n : Int) = some d := by
      rw [idx_nat (by omega), ← List.getElem?_eq_getElem, List.getElem?_append_right (by omega), hq]; simp
    have g3 : ∃ z, idx ((q ++ d :: c :: post).set (n + 1) d) (n : Int) = some z := by
      rw [idx_nat (by rw [List.length_set]; omega)]; exact ⟨_, rfl⟩
    obtain ⟨z, g3⟩ := g3
    have hb := before_at hk c d
    rw [e0, ref19_Region.l2, if_pos (by simp only [decide_eq_true_eq]; omega), w1, g1, Option.bind_some, g2, Option.bind_some, hb, Option.bind_some]
    by_cases h : cr c d < 0
    · rw [if_pos (by simpa using h), Option.bind_some, Option.bind_some, Int.toNat_natCast, Int.toNat_natCast, g3, Option.bind_some]
      have es := set_swap q post d c
      rw [hq] at es
      rw [es]
      obtain ⟨p1, p2, h1, h2, h3, h4⟩ := refReg_l2 k hk (c := c) n q (d :: post) m hq (by omega) (by simp; omega)
      refine ⟨p1, p2 ++ [d], by rw [h1, List.append_assoc], ?_, fun x hx => ?_, h4⟩
      · rw [h2]; simp
      · rcases List.mem_append.1 hx with hx | hx
        · exact h3 x hx
        · rw [List.mem_singleton] at hx; subst hx; exact h
    · rw [if_neg (by simpa using h)]
      refine ⟨q ++ [d], [], by simp, by simp, by simp, fun x hx => ?_⟩
      rw [List.getLast?_concat] at hx
      cases hx
      exact h
def keptR (l : List TChange) (j : Nat) (c : TChange) : Bool := Sb c.Mod.Match && (List.range' 0 l.length).all fun i => !badR l j c i
theorem keptR_not {l : List TChange} {i j : Nat} {c d : TChange} (hc : RC c.Mod.Match) (hi : l[i]? = some d) (hd : regOf d = regOf c) (hj : l[j]? = some c) (hlt : i < j) : keptR l j c = false := by
  have hu : d.Unit = c.Unit := congrArg TRegion.Unit hd
  have hm : d.Mod.Match = c.Mod.Match := congrArg TRegion.Cube hd
  unfold keptR
  cases hb : Sb c.Mod.Match
  · rfl
  · rw [Bool.true_and, List.all_eq_false]
    refine ⟨i, ?_, ?_⟩
    · rw [List.mem_range'_1]
      have := (List.getElem?_eq_some_iff.1 hi).1
      omega
    · unfold badR
      rw [hi]
      have : i ≠ j := by omega
      simp [hu, hm, wC_refl hc, hb, hlt, this]
theorem refReg_l0 (k : Nat) {l : List TChange} (hk : 64 < k) (hs : RCh l) (hl : l.length < k) (hl2 : l.length ≤ 100000) : ∀ (r n m : Nat) (out : List TRegion), n + r = l.length → r < m → out.length ≤ n →
    out.Pairwise ltR → (∀ x, x ∈ out ↔ ∃ (j : Nat) (c : TChange), j < n ∧ l[j]? = some c ∧ keptR l j c = true ∧ regOf c = x) →
    ∃ o, ref19_Region.l0 k l m out (n : Int) = some o ∧ o.Pairwise ltR ∧ ∀ x, x ∈ o ↔ ∃ (j : Nat) (c : TChange), l[j]? = some c ∧ keptR l j c = true ∧ regOf c = x
  | r, n, 0, _, _, h, _, _, _ => by omega
  | 0, n, m + 1, out, hn, _, ho, hp, hm' => by
    refine ⟨out, ?_, hp, fun x => ?_⟩
    · rw [ref19_Region.l0, if_neg (by simp only [decide_eq_true_eq]; omega)]
    · rw [hm' x]
      exact ⟨fun ⟨j, c, _, h⟩ => ⟨j, c, h⟩, fun ⟨j, c, h⟩ => ⟨j, c, by have := (List.getElem?_eq_some_iff.1 h.1).1; omega, h⟩⟩
  | r + 1, n, m + 1, out, hn, hm, ho, hp, hmem => by
    have h : n < l.length := by omega
    have hg : l[n]? = some l[n] := List.getElem?_eq_getElem h
    have hc := hs _ (List.getElem_mem h)
    have hk1 := refReg_l1 k (by omega) (l := l) (i := n) (c := l[n]) (by omega) l.length 0 k (Sb l[n].Mod.Match) (by omega) hl
    rw [show ((0 : Nat) : Int) = 0 from rfl] at hk1
    rw [ref19_Region.l0, if_pos (by simp only [decide_eq_true_eq]; omega), idx_nat h, Option.bind_some, Cube_at hk hc, Option.bind_some, hk1, Option.bind_some]
    show ∃ o, ((if (!keptR l n l[n]) = true then some out else _).bind _) = some o ∧ _
    cases hkp : keptR l n l[n]
    · simp only [Bool.not_false, if_true, Option.bind_some]
      rw [inc n (by omega)]
      refine refReg_l0 k hk hs hl hl2 r (n + 1) m out (by omega) (by omega) (by omega) hp fun x => ?_
      rw [hmem x]
      refine ⟨fun ⟨j, c, h1, h2⟩ => ⟨j, c, by omega, h2⟩, fun ⟨j, c, h1, h2, h3, h4⟩ => ⟨j, c, ?_, h2, h3, h4⟩⟩
      rcases Nat.lt_or_ge j n with h5 | h5
      · exact h5
      · obtain rfl : j = n := by omega
        rw [hg] at h2
        cases h2
        rw [hkp] at h3; cases h3
    · simp only [Bool.not_true, Bool.false_eq_true, if_false]
      show ∃ o, (((app 200 out [regOf l[n]]).bind _).bind _) = some o ∧ _
      rw [app_some (by rw [List.length_singleton]; omega), Option.bind_some]
      have e1 : IntKind.i64.wrap (((out ++ [regOf l[n]]).length : Int) - 1) = (out.length : Int) := by
        rw [List.length_append, List.length_singleton, wrapI (by omega) (by omega)]; omega
      rw [e1]
      obtain ⟨p1, p2, h1, h2, h3, h4⟩ := refReg_l2 k (by omega) (c := regOf l[n]) out.length out [] k rfl (by omega) (by simp; omega)
      rw [h2]
      simp only [Option.bind_some, List.append_nil]
      rw [inc n (by omega)]
      have hnot : regOf l[n] ∉ out := fun hin => by
        obtain ⟨j, c, hj, hj2, hj3, hj4⟩ := (hmem _).1 hin
        rw [keptR_not hc hj2 hj4 hg hj] at hkp
        cases hkp
      have hmemN : ∀ x, x ∈ p1 ++ regOf l[n] :: p2 ↔ x ∈ out ∨ x = regOf l[n] := fun x => by
        rw [h1]
        simp only [List.mem_append, List.mem_cons]
        constructor
        · rintro (a | a | a)
          · exact .inl (.inl a)
          · exact .inr a
          · exact .inl (.inr a)
        · rintro ((a | a) | a)
          · exact .inl a
          · exact .inr (.inr a)
          · exact .inr (.inl a)
      refine refReg_l0 k hk hs hl hl2 r (n + 1) m _ (by omega) (by omega) ?_ ?_ fun x => ?_
      · have : out.length = p1.length + p2.length := by rw [h1, List.length_append]
        rw [List.length_append, List.length_cons]; omega
      · rw [h1] at hp hnot
        rw [List.pairwise_append] at hp
        rw [List.pairwise_append, List.pairwise_cons]
        have hlow : ∀ x ∈ p1, ltR x (regOf l[n]) := fun x hx => by
          obtain ⟨q, d, rfl⟩ : ∃ q d, p1 = q ++ [d] := by
            refine ⟨p1.dropLast, p1.getLast (fun h => by rw [h] at hx; cases hx), (List.dropLast_concat_getLast _).symm⟩
          have hd := h4 d (List.getLast?_concat ..)
          have hd2 : ltR d (regOf l[n]) := by
            have hne : d ≠ regOf l[n] := fun e => hnot (by rw [← e]; simp)
            unfold ltR at hd ⊢
            have := cr_anti d (regOf l[n])
            rcases Int.lt_trichotomy (cr d (regOf l[n])) 0 with h5 | h5 | h5
            · exact h5
            · exact absurd (cr_zero h5) hne
            · omega
          rcases List.mem_append.1 hx with h5 | h5
          · exact ltR.trans ((List.pairwise_append.1 hp.1).2.2 x h5 d (by simp)) hd2
          · rw [List.mem_singleton] at h5; subst h5; exact hd2
        refine ⟨hp.1, ⟨h3, hp.2.1⟩, fun x hx y hy => ?_⟩
        rcases List.mem_cons.1 hy with h5 | h5
        · subst h5; exact hlow x hx
        · exact hp.2.2 x hx y h5
      · rw [hmemN, hmem x]
        constructor
        · rintro (⟨j, c, h5, h6⟩ | rfl)
          · exact ⟨j, c, by omega, h6⟩
          · exact ⟨n, l[n], by omega, hg, hkp, rfl⟩
        · rintro ⟨j, c, h5, h6, h7, h8⟩
          rcases Nat.lt_or_ge j n with h9 | h9
          · exact .inl ⟨j, c, h9, h6, h7, h8⟩
          · obtain rfl : j = n := by omega
            rw [hg] at h6
            cases h6
            exact .inr h8.symm
theorem first_at {α : Type} [DecidableEq α] {x : α} : ∀ {s : List α}, x ∈ s → ∃ j : Nat, s[j]? = some x ∧ ∀ i : Nat, i < j → s[i]? ≠ some x
  | [], h => by cases h
  | y :: s, h => by
    by_cases e : y = x
    · exact ⟨0, by simp [e], fun i hi => by omega⟩
    · have h' : x ∈ s := by
        rcases List.mem_cons.1 h with h | h
        · exact absurd h.symm e
        · exact h
      obtain ⟨j, h1, h2⟩ := first_at h'
      refine ⟨j + 1, by simpa using h1, fun i hi => ?_⟩
      match i with
      | 0 => simpa using e
      | i + 1 => simpa using h2 i (by omega)
theorem mem_keptR {l : List TChange} (hs : RCh l) {x : TRegion} : (∃ (j : Nat) (c : TChange), l[j]? = some c ∧ keptR l j c = true ∧ regOf c = x) ↔ x ∈ ofC l := by
  rw [mem_ofC hs]
  constructor
  · rintro ⟨j, c, h1, h2, rfl⟩
    unfold keptR at h2
    rw [Bool.and_eq_true_iff, List.all_eq_true] at h2
    refine ⟨mem_regL.2 ⟨c, List.mem_of_getElem? h1, h2.1, rfl⟩, fun y hy hu hw => ?_⟩
    obtain ⟨d, hd, hb, rfl⟩ := mem_regL.1 hy
    obtain ⟨i, hi⟩ := List.mem_iff_getElem?.1 hd
    by_cases e : regOf d = regOf c
    · exact e
    · have hij : i ≠ j := fun e' => by subst e'; rw [h1] at hi; cases hi; exact e rfl
      have hu' : d.Unit = c.Unit := hu
      have hne : ¬ c.Mod.Match = d.Mod.Match := fun e' => e (by unfold regOf; rw [hu', e'])
      have := h2.2 i (by rw [List.mem_range'_1]; have := (List.getElem?_eq_some_iff.1 hi).1; omega)
      unfold badR at this
      rw [hi] at this
      have hw' : wC c.Mod.Match d.Mod.Match = true := hw
      simp [hij, hu', hw', h2.1, hb, hne] at this
  · rintro ⟨h1, h2⟩
    obtain ⟨c0, hc0, hs0, he0⟩ := mem_regL.1 h1
    have hin : x ∈ l.map regOf := List.mem_map.2 ⟨c0, hc0, he0⟩
    obtain ⟨j, hj, hj2⟩ := first_at hin
    rw [List.getElem?_map] at hj
    obtain ⟨c, hc, he⟩ := Option.map_eq_some_iff.1 hj
    have hsc : Sb c.Mod.Match = true := by
      have e1 : c.Mod.Match = x.Cube := congrArg TRegion.Cube he
      have e2 : c0.Mod.Match = x.Cube := congrArg TRegion.Cube he0
      rw [e1, ← e2]; exact hs0
    refine ⟨j, c, hc, ?_, he⟩
    unfold keptR
    rw [hsc, Bool.true_and, List.all_eq_true]
    intro i hi
    unfold badR
    cases hg : l[i]? with
    | none => rfl
    | some d =>
      simp only
      rw [Bool.not_eq_true', Bool.eq_false_iff]
      intro hh
      simp only [Bool.and_eq_true, Bool.or_eq_true, decide_eq_true_eq, Bool.not_eq_true', decide_eq_false_iff_not, beq_iff_eq] at hh
      obtain ⟨⟨⟨h4, h5⟩, h6, _, h7⟩, h8⟩ := hh
      have e := h2 (regOf d) (mem_regL.2 ⟨d, List.mem_of_getElem? hg, h7, rfl⟩) (by rw [← he]; exact h5) (by rw [← he]; exact h6)
      rcases h8 with h8 | h8
      · exact h8 (by rw [← he] at e; exact (congrArg TRegion.Cube e).symm)
      · exact hj2 i h8 (by rw [List.getElem?_map, hg, ← e]; rfl)
theorem ref19_Region_at {k : Nat} (hk : 64 < k) {l : List TChange} (hs : RCh l) (hl : l.length < k) (hl2 : l.length ≤ 100000) : ref19_Region k l = some (ofC l) := by
  unfold ref19_Region
  obtain ⟨o, h1, h2, h3⟩ := refReg_l0 k hk hs hl hl2 l.length 0 k [] (by omega) hl (by simp) List.Pairwise.nil (fun x => by simp)
  rw [show ((0 : Nat) : Int) = 0 from rfl] at h1
  rw [h1, Option.bind_some, sorted_oneR o (ofC l) h2 (ofC_sorted l) fun x => by rw [h3, mem_keptR hs]]
/-! ### The changes of a unit -/
def forC (l : List TChange) (u : Int) : List TMod := (l.filter fun c => c.Unit == u).map fun c => c.Mod
theorem forC_len (l : List TChange) (u : Int) : (forC l u).length ≤ l.length := by
  unfold forC
  rw [List.length_map]
  exact List.length_filter_le _ _
theorem forC_drop {l : List TChange} {u : Int} {n : Nat} (h : n < l.length) : forC (l.drop n) u = (if (l[n].Unit == u) = true then [l[n].Mod] else []) ++ forC (l.drop (n + 1)) u := by
  rw [List.drop_eq_getElem_cons h]
  unfold forC
  rw [List.filter_cons]
  cases l[n].Unit == u <;> simp
theorem For_l0 (k : Nat) {l : List TChange} {u : Int} (hl2 : l.length ≤ 100000) (hacts : ∀ c ∈ l, c.Mod.Acts.length * 32 ≤ 140737488355328) : ∀ (r n m : Nat) (out : List TMod), n + r = l.length → r < m → out.length ≤ n →
    region_For.l0 k l u m out (n : Int) = some (out ++ forC (l.drop n) u)
  | r, n, 0, _, _, h, _ => by omega
  | 0, n, m + 1, out, hn, _, _ => by
    rw [region_For.l0, if_neg (by simp only [decide_eq_true_eq]; omega), List.drop_eq_nil_of_le (by omega)]
    simp [forC]
  | r + 1, n, m + 1, out, hn, hm, ho => by
    have h : n < l.length := by omega
    have ha := hacts _ (List.getElem_mem h)
    rw [region_For.l0, if_pos (by simp only [decide_eq_true_eq]; omega), idx_nat h, Option.bind_some, forC_drop h, inc n (by omega)]
    cases l[n].Unit == u
    · simp only [Bool.false_eq_true, if_false, Option.bind_some, List.nil_append]
      exact For_l0 k hl2 hacts r (n + 1) m out (by omega) (by omega) (by omega)
    · simp only [if_true]
      unfold slices_Clone_Act slices_Clip_Act
      rw [app_some (by rw [List.length_nil]; omega), List.nil_append]
      simp only [Option.bind_some]
      rw [app_some (by rw [List.length_singleton]; omega)]
      simp only [Option.bind_some]
      rw [For_l0 k hl2 hacts r (n + 1) m _ (by omega) (by omega) (by rw [List.length_append, List.length_singleton]; omega), List.append_assoc]
      rfl
theorem region_For_at {k : Nat} {l : List TChange} {u : Int} (hk : l.length < k) (hl2 : l.length ≤ 100000) (hacts : ∀ c ∈ l, c.Mod.Acts.length * 32 ≤ 140737488355328) : region_For k l u = some (forC l u) := by
  unfold region_For
  have h0 := For_l0 k (u := u) hl2 hacts l.length 0 k [] (by omega) hk (by simp)
  rw [show ((0 : Nat) : Int) = 0 from rfl, List.drop_zero, List.nil_append] at h0
  rw [h0]; rfl
theorem refFor_l0 (k : Nat) {l : List TChange} {u : Int} (hl2 : l.length ≤ 100000) : ∀ (r n m : Nat) (out : List TMod), n + r = l.length → r < m → out.length ≤ n →
    ref19_For.l0 k l u m out (n : Int) = some (out ++ forC (l.drop n) u)
  | r, n, 0, _, _, h, _ => by omega
  | 0, n, m + 1, out, hn, _, _ => by
    rw [ref19_For.l0, if_neg (by simp only [decide_eq_true_eq]; omega), List.drop_eq_nil_of_le (by omega)]
    simp [forC]
  | r + 1, n, m + 1, out, hn, hm, ho => by
    have h : n < l.length := by omega
    rw [ref19_For.l0, if_pos (by simp only [decide_eq_true_eq]; omega), idx_nat h, Option.bind_some, forC_drop h, inc n (by omega)]
    cases l[n].Unit == u
    · simp only [Bool.false_eq_true, if_false, Option.bind_some, List.nil_append]
      exact refFor_l0 k hl2 r (n + 1) m out (by omega) (by omega) (by omega)
    · simp only [if_true]
      rw [app_some (by rw [List.length_singleton]; omega)]
      simp only [Option.bind_some]
      rw [refFor_l0 k hl2 r (n + 1) m _ (by omega) (by omega) (by rw [List.length_append, List.length_singleton]; omega), List.append_assoc]
theorem ref19_For_at {k : Nat} {l : List TChange} {u : Int} (hk : l.length < k) (hl2 : l.length ≤ 100000) : ref19_For k l u = some (forC l u) := by
  unfold ref19_For
  have h0 := refFor_l0 k (u := u) hl2 l.length 0 k [] (by omega) hk (by simp)
  rw [show ((0 : Nat) : Int) = 0 from rfl, List.drop_zero, List.nil_append] at h0
  rw [h0]; rfl
theorem SameActs_l0 (k : Nat) {a : List TAct} (h2 : a.length < 2 ^ 63) : ∀ (r n m : Nat), n + r = a.length → r < m → ref04_SameActs.l0 k a a m (n : Int) = some (.brk ())
  | r, n, 0, _, h => by omega
  | 0, n, m + 1, hn, _ => by
    rw [ref04_SameActs.l0, if_neg (by simp only [decide_eq_true_eq]; omega)]
  | r + 1, n, m + 1, hn, hm => by
    have h : n < a.length := by omega
    have hc : cellsEq (TAct.enc a[n]) (TAct.enc a[n]) = true := cellsEq_refl _ (by simp [TAct.enc, leafEq])
    rw [ref04_SameActs.l0, if_pos (by simp only [decide_eq_true_eq]; omega), idx_nat h, Option.bind_some, Option.bind_some, hc, if_neg (by simp), inc63 n (by omega)]
    exact SameActs_l0 k h2 r (n + 1) m (by omega) (by omega)
theorem SameMods_refl {k : Nat} {x : TMod} (h : x.Acts.length < k) (h2 : x.Acts.length < 2 ^ 63) : ref04_SameMods k x x = some true := by
  unfold ref04_SameMods ref04_SameActs
  rw [if_pos (by simp [cellsEq_dec]), if_neg (by simp), show (0 : Int) = ((0 : Nat) : Int) from rfl, SameActs_l0 k h2 x.Acts.length 0 k (by omega) h]
  simp
/-! ### The law -/
theorem RegionOf_l0 (k : Nat) (l : List TRegion) : ∀ (r n m : Nat), n + r = l.length → r < m → l.length < 2 ^ 60 → law19_RegionOf.l0 k l l m (n : Int) = some (.brk ())
  | r, n, 0, _, h, _ => by omega
  | 0, n, m + 1, hn, _, _ => by
    rw [law19_RegionOf.l0, if_neg (by simp only [decide_eq_true_eq]; omega)]
  | r + 1, n, m + 1, hn, hr, hl => by
    have h1 : n < l.length := by omega
    rw [law19_RegionOf.l0, if_pos (by simp only [decide_eq_true_eq]; omega), idx_nat h1, Option.bind_some, Option.bind_some, (cellsEq_region _ _).2 rfl, if_neg (by simp), inc n (by omega)]
    exact RegionOf_l0 k l r (n + 1) m (by omega) (by omega) hl
theorem RegionOf_l1 (k : Nat) {l : List TMod} (hm : ∀ x ∈ l, x.Acts.length < k ∧ x.Acts.length < 2 ^ 63) : ∀ (r n m : Nat), n + r = l.length → r < m → l.length < 2 ^ 60 → law19_RegionOf.l1 k l l m (n : Int) = some (.brk ())
  | r, n, 0, _, h, _ => by omega
  | 0, n, m + 1, hn, _, _ => by
    rw [law19_RegionOf.l1, if_neg (by simp only [decide_eq_true_eq]; omega)]
  | r + 1, n, m + 1, hn, hr, hl => by
    have h1 : n < l.length := by omega
    have hx := hm _ (List.getElem_mem h1)
    rw [law19_RegionOf.l1, if_pos (by simp only [decide_eq_true_eq]; omega), idx_nat h1, Option.bind_some, Option.bind_some, SameMods_refl hx.1 hx.2, Option.bind_some, if_neg (by simp), inc n (by omega)]
    exact RegionOf_l1 k hm r (n + 1) m (by omega) (by omega) hl
theorem law_RegionOf {k : Nat} (hk : 1000 < k) {l : List TChange} {u : Int} (hl : RCh l) (hacts : ∀ c ∈ l, c.Mod.Acts.length * 32 ≤ 140737488355328) (hk2 : ∀ c ∈ l, c.Mod.Acts.length < k) : law19_RegionOf k l u = some true := by
  unfold law19_RegionOf
  by_cases h : 30 < l.length
  · rw [if_pos (by simp only [decide_eq_true_eq]; omega), answers19 (by omega)]; rfl
  · have hof := ofC_len l
    have hfor := forC_len l u
    have hun := unitsC_len l
    have h0 := RegionOf_l0 k (ofC l) (ofC l).length 0 k (by omega) (by omega) (by omega)
    have h1 := RegionOf_l1 k (l := forC l u) (fun x hx => by
      unfold forC at hx
      obtain ⟨c, hc, rfl⟩ := List.mem_map.1 hx
      have hcl := (List.mem_filter.1 hc).1
      have := hacts c hcl
      exact ⟨hk2 c hcl, by omega⟩) (forC l u).length 0 k (by omega) (by omega) (by omega)
    rw [show ((0 : Nat) : Int) = 0 from rfl] at h0 h1
    rw [if_neg (by simp only [decide_eq_true_eq]; omega), app_some (by rw [List.length_nil]; omega), Option.bind_some, List.nil_append, region_Of_at (by omega) hl (by omega) (by omega), Option.bind_some, ref19_Region_at (by omega) hl (by omega) (by omega), Option.bind_some,
      region_For_at (by omega) (by omega) hacts, Option.bind_some, ref19_For_at (by omega) (by omega), Option.bind_some, answers19 (by omega), Option.bind_some, if_neg (by simp), region_Units_at (by omega) (by omega), Option.bind_some, ref19_Units_at (by omega) (by omega), Option.bind_some,
      Ints_refl (by omega) (by omega), Option.bind_some, Option.bind_some, if_neg (by simp), h0, Option.bind_some]
    simp only
    rw [h1]
    rfl
end Go.Proofs.Ytangebngeeamoaa
