/- Plain laws on tables: both sorts come to the same. -/
import Derived.Test.YtgfnkigoaajllaaGreatM2
set_option linter.unusedVariables false
set_option linter.unusedSimpArgs false
set_option maxRecDepth 100000
namespace Go.Proofs.YtgfnkigoaajllaaGreat
open Go.RowKit Go.Pod

theorem part_pos0 (out : List TRule) (c : TRule) : Part out c (pos0 out c) := by
  unfold pos0
  cases h : out.findIdx? fun x => !beB x c with
  | none =>
    rw [List.findIdx?_eq_none_iff] at h
    refine ⟨Nat.le_refl _, fun i x hi hx => ?_, fun x hx => ?_⟩
    · simpa using h x (List.mem_of_getElem? hx)
    · rw [Option.getD_none, List.getElem?_eq_none (Nat.le_refl _)] at hx; cases hx
  | some p =>
    rw [List.findIdx?_eq_some_iff_getElem] at h
    obtain ⟨hp, h1, h2⟩ := h
    rw [Option.getD_some]
    refine ⟨Nat.le_of_lt hp, fun i x hi hx => ?_, fun x hx => ?_⟩
    · have := h2 i hi
      rw [List.getElem?_eq_getElem (by omega)] at hx
      cases hx
      simpa using this
    · rw [List.getElem?_eq_getElem hp] at hx
      cases hx
      simpa using h1
theorem half (i j : Nat) (h : i + j < 2 ^ 62) : IntKind.i64.wrap (bShr .u64 (IntKind.u64.wrap (IntKind.i64.wrap ((i : Int) + (j : Int)))) 1) = (((i + j) / 2 : Nat) : Int) := by
  rw [wrapI (x := (i : Int) + (j : Int)) (by omega) (by omega), wrap64 ⟨by omega, by omega⟩, show (1 : Int) = ((1 : Nat) : Int) from rfl, bShr64 ⟨by omega, by omega⟩ (by decide), show ((i : Int) + (j : Int)).toNat = i + j by omega, Nat.shiftRight_eq_div_pow]
  rw [wrapI (by omega) (by omega)]
theorem Bin_l0 (k : Nat) (hk : 12 < k) {out : List TRule} {c : TRule} (hs : out.Pairwise fun a b => beB a b = true) (hlen : out.length < 2 ^ 60) : ∀ (d i j m : Nat), j - i ≤ d → d < m → i ≤ j → j ≤ out.length →
    (∀ (t : Nat) (x : TRule), t < i → out[t]? = some x → beB x c = true) → (∀ (t : Nat) (x : TRule), j ≤ t → out[t]? = some x → beB x c = false) →
    ∃ p : Nat, slices_BinarySearchFunc_Rule.l0 k out c (fun a b => rule_compare k a b) m (i : Int) (j : Int) = some (p : Int) ∧ Part out c p
  | d, i, j, 0, _, h, _, _, _, _ => by omega
  | d, i, j, m + 1, hd, hm, hij, hj, h1, h2 => by
    by_cases hlt : i < j
    · have hb : (i + j) / 2 < out.length := by omega
      have hg := List.getElem?_eq_getElem hb
      rw [slices_BinarySearchFunc_Rule.l0, if_pos (by simp only [decide_eq_true_eq]; omega), half i j (by omega), idx_nat hb, Option.bind_some, rule_compare_at hk, Option.bind_some]
      have e : decide (cmpR out[(i + j) / 2] c < 0) = beB out[(i + j) / 2] c := rfl
      rw [e]
      have hp := List.pairwise_iff_getElem.1 hs
      cases hbe : beB out[(i + j) / 2] c
      · simp only [Bool.false_eq_true, if_false, Option.bind_some]
        refine Bin_l0 k hk hs hlen (d - 1) i ((i + j) / 2) m (by omega) (by omega) (by omega) (by omega) h1 fun t x ht hx => ?_
        have htl := (List.getElem?_eq_some_iff.1 hx).1
        have hxe := (List.getElem?_eq_some_iff.1 hx).2
        rcases Nat.eq_or_lt_of_le ht with h3 | h3
        · subst h3; rw [← hxe]; exact hbe
        · cases hbx : beB x c
          · rfl
          · have := hp ((i + j) / 2) t hb htl h3
            rw [hxe] at this
            rw [beB_trans this hbx] at hbe; cases hbe
      · simp only [if_true, Option.bind_some]
        rw [inc _ (by omega)]
        refine Bin_l0 k hk hs hlen (d - 1) ((i + j) / 2 + 1) j m (by omega) (by omega) (by omega) hj (fun t x ht hx => ?_) h2
        have htl := (List.getElem?_eq_some_iff.1 hx).1
        have hxe := (List.getElem?_eq_some_iff.1 hx).2
        rcases Nat.eq_or_lt_of_le (show t ≤ (i + j) / 2 by omega) with h3 | h3
        · subst h3; rw [← hxe]; exact hbe
        · have := hp t ((i + j) / 2) htl hb h3
          rw [hxe] at this
          exact beB_trans this hbe
    · obtain rfl : i = j := by omega
      rw [slices_BinarySearchFunc_Rule.l0, if_neg (by simp)]
      exact ⟨i, rfl, hj, h1, fun x hx => h2 i x (Nat.le_refl _) hx⟩
theorem Bin_at {k : Nat} (hk : 12 < k) {out : List TRule} {c : TRule} (hs : out.Pairwise fun a b => beB a b = true) (hlen : out.length < 2 ^ 60) (hlk : out.length < k) :
    slices_BinarySearchFunc_Rule k out c (fun a b => rule_compare k a b) = some ((pos0 out c : Int), (out[pos0 out c]?).any (fun x => keyB x c)) := by
  unfold slices_BinarySearchFunc_Rule
  obtain ⟨p, hp1, hp2⟩ := Bin_l0 k hk (c := c) hs hlen out.length 0 out.length k (by omega) hlk (by omega) (by omega) (fun t x ht => by omega) (fun t x ht hx => by
    rw [List.getElem?_eq_none ht] at hx; cases hx)
  rw [show ((0 : Nat) : Int) = 0 from rfl] at hp1
  obtain rfl := hp2.one hs (part_pos0 out c)
  rw [hp1, Option.bind_some]
  by_cases h : pos0 out c < out.length
  · rw [if_pos (by simp only [decide_eq_true_eq]; omega), idx_nat h, Option.bind_some]
    show ((rule_compare k out[pos0 out c] c).bind _).bind _ = _
    rw [rule_compare_at hk, Option.bind_some, Option.bind_some, List.getElem?_eq_getElem h, Option.any_some, cmpR_zero]
  · rw [if_neg (by simp only [decide_eq_true_eq]; omega), List.getElem?_eq_none (by omega)]; rfl
def sortF : List TRule → List TRule → List TRule
  | [], out => out
  | c :: cs, out => sortF cs (if ruleB c then putAt out c (pos0 out c) else out)
theorem sortF_ok : ∀ (l out : List TRule), TabOK out → TabOK (sortF l out)
  | [], out, h => h
  | c :: cs, out, h => by
    rw [sortF]
    cases hc : ruleB c
    · simp only [Bool.false_eq_true, if_false]; exact sortF_ok cs out h
    · simp only [if_true]
      exact sortF_ok cs _ (putAt_ok h hc (part_pos0 out c))
theorem sortF_len : ∀ (l out : List TRule), (sortF l out).length ≤ out.length + l.length
  | [], out => by simp [sortF]
  | c :: cs, out => by
    rw [sortF, List.length_cons]
    have h1 := sortF_len cs (if ruleB c then putAt out c (pos0 out c) else out)
    have h2 : (if ruleB c then putAt out c (pos0 out c) else out).length ≤ out.length + 1 := by
      split
      · exact putAt_len
      · omega
    omega
theorem sortF_mem {x : TRule} : ∀ (l out : List TRule), x ∈ sortF l out → x ∈ out ∨ x ∈ l
  | [], out, h => .inl h
  | c :: cs, out, h => by
    rw [sortF] at h
    rcases sortF_mem cs _ h with h | h
    · split at h
      · rcases putAt_mem h with h | h
        · exact .inl h
        · subst h; exact .inr (by simp)
      · exact .inl h
    · exact .inr (List.mem_cons_of_mem _ h)
theorem copied_at {r : TRule} (h : r.Acts.length * 32 ≤ 140737488355328) : rule_copied r = some r := by
  unfold rule_copied slices_Clone_Act slices_Clip_Act
  rw [app_some (by rw [List.length_nil]; omega), List.nil_append]
  rfl
theorem rule_Sort_l0 (k : Nat) (hk : 2000 < k) {l : List TRule} (hl : ∀ r ∈ l, OkR k r) (hlen : l.length ≤ 1001) : ∀ (r n m : Nat) (out : List TRule), n + r = l.length → r < m → out.length ≤ n → TabOK out →
    rule_Sort.l0 k l m out (n : Int) = some (sortF (l.drop n) out)
  | r, n, 0, _, _, h, _, _ => by omega
  | 0, n, m + 1, out, hn, _, _, _ => by
    rw [rule_Sort.l0, if_neg (by simp only [decide_eq_true_eq]; omega), List.drop_eq_nil_of_le (by omega), sortF]
  | r + 1, n, m + 1, out, hn, hm, ho, ht => by
    have h : n < l.length := by omega
    have hr := hl _ (List.getElem_mem h)
    rw [rule_Sort.l0, if_pos (by simp only [decide_eq_true_eq]; omega), idx_nat h, Option.bind_some, rule_Sound_at (by omega) hr, Option.bind_some, inc n (by omega), List.drop_eq_getElem_cons h, sortF]
    cases hb : ruleB l[n]
    · simp only [Bool.not_false, if_true, Option.bind_some, Bool.false_eq_true, if_false]
      exact rule_Sort_l0 k hk hl hlen r (n + 1) m out (by omega) (by omega) (by omega) ht
    · have hp := part_pos0 out l[n]
      have hplen : (putAt out l[n] (pos0 out l[n])).length ≤ n + 1 := Nat.le_trans putAt_len (by omega)
      simp only [Bool.not_true, Bool.false_eq_true, if_false, if_true]
      rw [Bin_at (by omega) ht.2 (by omega) (by omega), Option.bind_some, copied_at hr.fit]
      simp only [Option.bind_some]
      have hput : ((if (out[pos0 out l[n]]?).any (fun x => keyB x l[n]) = true then ((idx out (pos0 out l[n] : Int)).bind fun x53 => some (out.set ((pos0 out l[n] : Nat) : Int).toNat l[n]))
          else ((slices_Insert_Rule out (pos0 out l[n] : Int) [l[n]]).bind fun x71 => some x71)) : Option (List TRule)) = some (putAt out l[n] (pos0 out l[n])) := by
        unfold putAt tailAt
        cases hk' : (out[pos0 out l[n]]?).any (fun x => keyB x l[n])
        · rw [if_neg (by simp), cond_false]
          unfold slices_Insert_Rule insO
          rw [if_pos ⟨by omega, by have := hp.1; omega, rfl, by omega⟩, Int.toNat_natCast]
          rfl
        · have hpl : pos0 out l[n] < out.length := by
            rcases Nat.lt_or_ge (pos0 out l[n]) out.length with h3 | h3
            · exact h3
            · rw [List.getElem?_eq_none h3] at hk'; cases hk'
          rw [if_pos rfl, cond_true, idx_nat hpl, Option.bind_some, Int.toNat_natCast, List.set_eq_take_append_cons_drop, if_pos hpl]
          simp
      rw [hput]
      simp only [Option.bind_some]
      exact rule_Sort_l0 k hk hl hlen r (n + 1) m _ (by omega) (by omega) hplen (putAt_ok ht hb hp)
theorem rule_Sort_at {k : Nat} (hk : 2000 < k) {l : List TRule} (hl : ∀ r ∈ l, OkR k r) (hlen : l.length ≤ 1001) : rule_Sort k l = some (sortF l []) := by
  unfold rule_Sort slices_Clip_Rule
  have h0 := rule_Sort_l0 k hk hl hlen l.length 0 k [] (by omega) (by omega) (by simp) ⟨by simp, by simp⟩
  rw [show ((0 : Nat) : Int) = 0 from rfl, List.drop_zero] at h0
  rw [h0]; rfl
theorem ref_Sort_l1 (k : Nat) (hk : 12 < k) {out : List TRule} {c : TRule} (hlen : out.length < 2 ^ 60) : ∀ (r n m : Nat), n + r = out.length → r < m → (∀ (i : Nat) (x : TRule), i < n → out[i]? = some x → beB x c = true) →
    ∃ p : Nat, ref04_Sort.l1 k out c m (n : Int) = some (p : Int) ∧ Part out c p
  | r, n, 0, _, h, _ => by omega
  | 0, n, m + 1, hn, _, h1 => by
    rw [ref04_Sort.l1, if_neg (by simp only [decide_eq_true_eq]; omega)]
    refine ⟨n, by simp, by omega, h1, fun x hx => ?_⟩
    rw [List.getElem?_eq_none (by omega)] at hx; cases hx
  | r + 1, n, m + 1, hn, hm, h1 => by
    have h : n < out.length := by omega
    rw [ref04_Sort.l1, if_pos (by simp only [decide_eq_true_eq]; omega), idx_nat h, Option.bind_some, ref04_Before_at hk, Option.bind_some, Option.bind_some, inc n (by omega)]
    cases hb : beB out[n] c
    · refine ⟨n, by simp, by omega, h1, fun x hx => ?_⟩
      rw [List.getElem?_eq_getElem h] at hx; cases hx; exact hb
    · obtain ⟨p, h2, h3⟩ := ref_Sort_l1 k hk hlen r (n + 1) m (by omega) (by omega) fun i x hi hx => by
        rcases Nat.lt_or_ge i n with h4 | h4
        · exact h1 i x h4 hx
        · obtain rfl : i = n := by omega
          rw [List.getElem?_eq_getElem h] at hx; cases hx; exact hb
      exact ⟨p, by simpa using h2, h3⟩
theorem ref04_Sort_l0 (k : Nat) (hk : 2000 < k) {l : List TRule} (hl : ∀ r ∈ l, OkR k r) (hlen : l.length ≤ 1001) : ∀ (r n m : Nat) (out : List TRule), n + r = l.length → r < m → out.length ≤ n → TabOK out →
    ref04_Sort.l0 k l m out (n : Int) = some (sortF (l.drop n) out)
  | r, n, 0, _, _, h, _, _ => by omega
  | 0, n, m + 1, out, hn, _, _, _ => by
    rw [ref04_Sort.l0, if_neg (by simp only [decide_eq_true_eq]; omega), List.drop_eq_nil_of_le (by omega), sortF]
  | r + 1, n, m + 1, out, hn, hm, ho, ht => by
    have h : n < l.length := by omega
    have hr := hl _ (List.getElem_mem h)
    rw [ref04_Sort.l0, if_pos (by simp only [decide_eq_true_eq]; omega), idx_nat h, Option.bind_some, ref04_Rule_at (by omega) hr, Option.bind_some, inc n (by omega), List.drop_eq_getElem_cons h, sortF]
    cases hb : ruleB l[n]
    · simp only [Bool.not_false, if_true, Option.bind_some, Bool.false_eq_true, if_false]
      exact ref04_Sort_l0 k hk hl hlen r (n + 1) m out (by omega) (by omega) (by omega) ht
    · obtain ⟨p, hp1, hp⟩ := ref_Sort_l1 k (by omega) (c := l[n]) (out := out) (by omega) out.length 0 k (by omega) (by omega) (fun i x hi => by omega)
      rw [show ((0 : Nat) : Int) = 0 from rfl] at hp1
      have hpe := hp.one ht.2 (part_pos0 out l[n])
      rw [← hpe]
      have hp2 := hp.1
      have hplen : (putAt out l[n] p).length ≤ n + 1 := Nat.le_trans putAt_len (by omega)
      simp only [Bool.not_true, Bool.false_eq_true, if_false, if_true]
      rw [hp1, Option.bind_some, if_pos (by omega), Int.toNat_natCast, List.take_length]
      have hdl : (out.drop p).length = out.length - p := List.length_drop
      rw [app_some (by rw [List.length_nil, hdl]; omega), List.nil_append, Option.bind_some]
      have htl2 : (tailAt out l[n] p).length ≤ out.length - p := by
        unfold tailAt
        cases (out[p]?).any (fun x => keyB x l[n])
        · rw [cond_false, hdl]; exact Nat.le_refl _
        · rw [cond_true, List.length_drop]; omega
      have hrest : ((if decide (0 < ((out.drop p).length : Int)) = true then (idx (out.drop p) 0).bind fun x53 => (ref04_Key x53 l[n]).bind fun x71 => some x71 else some false).bind fun (x50 : Bool) =>
          (if x50 = true then (if 0 ≤ 1 ∧ 1 ≤ ((out.drop p).length : Int) ∧ ((out.drop p).length : Int) ≤ (out.drop p).length then some (((out.drop p).take (out.drop p).length).drop (1 : Int).toNat) else none) else some (out.drop p))) = some (tailAt out l[n] p) := by
        unfold tailAt
        by_cases hpl : p < out.length
        · have e0 : idx (out.drop p) 0 = some out[p] := by
            rw [List.drop_eq_getElem_cons hpl]; rfl
          rw [if_pos (by simp only [decide_eq_true_eq, hdl]; omega), e0, Option.bind_some, ref04_Key_at, Option.bind_some, Option.bind_some, List.getElem?_eq_getElem hpl, Option.any_some]
          cases keyB out[p] l[n]
          · rfl
          · rw [if_pos rfl, if_pos ⟨by decide, by rw [hdl]; omega, Int.le_refl _⟩, List.take_length, List.drop_drop]
            rfl
        · rw [if_neg (by simp only [decide_eq_true_eq, hdl]; omega), List.getElem?_eq_none (by omega)]
          rfl
      have hcat : (((if decide (0 < ((out.drop p).length : Int)) = true then (idx (out.drop p) 0).bind fun x53 => (ref04_Key x53 l[n]).bind fun x71 => some x71 else some false).bind fun (x50 : Bool) =>
          (if x50 = true then (if 0 ≤ 1 ∧ 1 ≤ ((out.drop p).length : Int) ∧ ((out.drop p).length : Int) ≤ (out.drop p).length then some (((out.drop p).take (out.drop p).length).drop (1 : Int).toNat) else none) else some (out.drop p)).bind fun (x73 : List TRule) =>
          (if 0 ≤ 0 ∧ 0 ≤ (p : Int) ∧ (p : Int) ≤ out.length then (app 272 ([] : List TRule) ((out.take p).drop 0)).bind fun x91 => (app 272 x91 [l[n]]).bind fun x93 => (app 272 x93 x73).bind fun x95 => some x95 else none).bind fun (x78 : List TRule) => some x78)) =
          some (putAt out l[n] p) := by
        have hassoc : ∀ (o : Option Bool) (f : Bool → Option (List TRule)) (g : List TRule → Option (List TRule)), (o.bind fun b => (f b).bind g) = (o.bind f).bind g := fun o f g => by cases o <;> rfl
        rw [hassoc, hrest, Option.bind_some, if_pos (by omega), List.drop_zero]
        have htl : (out.take p).length = p := by rw [List.length_take]; omega
        rw [app_some (by rw [List.length_nil, htl]; omega), List.nil_append, Option.bind_some, app_some (by rw [List.length_singleton, htl]; omega), Option.bind_some, app_some (by rw [List.length_append, List.length_singleton, htl]; omega)]
        rfl
      rw [hcat, Option.bind_some]
      exact ref04_Sort_l0 k hk hl hlen r (n + 1) m _ (by omega) (by omega) hplen (putAt_ok ht hb hp)
theorem ref04_Sort_at {k : Nat} (hk : 2000 < k) {l : List TRule} (hl : ∀ r ∈ l, OkR k r) (hlen : l.length ≤ 1001) : ref04_Sort k l = some (sortF l []) := by
  unfold ref04_Sort
  have h0 := ref04_Sort_l0 k hk hl hlen l.length 0 k [] (by omega) (by omega) (by simp) ⟨by simp, by simp⟩
  rw [show ((0 : Nat) : Int) = 0 from rfl, List.drop_zero] at h0
  rw [h0]; rfl
end Go.Proofs.YtgfnkigoaajllaaGreat
