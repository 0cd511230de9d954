/- What Apply makes of a table: the program's answer. -/
import Derived.Test.YtgfnkigoaajllaaGreatM4
set_option linter.unusedVariables false
set_option linter.unusedSimpArgs false
set_option maxRecDepth 100000
namespace Go.Proofs.YtgfnkigoaajllaaGreat
open Go.RowKit Go.Pod

theorem IndexFuncR_l0 (k : Nat) {xs : List TRule} {p : TRule → Option Bool} {q : TRule → Bool} (hq : ∀ x ∈ xs, p x = some (q x)) (hl : xs.length < 2 ^ 62) : ∀ (r n m : Nat), n + r = xs.length → r < m →
    slices_IndexFunc_Rule.l0 k xs p m (n : Int) = some (match (xs.drop n).findIdx? q with | some i => .ret ((n + i : Nat) : Int) | none => .brk ())
  | r, n, 0, _, h => by omega
  | 0, n, m + 1, hn, _ => by
    rw [slices_IndexFunc_Rule.l0, if_neg (by simp only [decide_eq_true_eq]; omega), List.drop_eq_nil_of_le (by omega)]; rfl
  | r + 1, n, m + 1, hn, hm => by
    have h : n < xs.length := by omega
    rw [slices_IndexFunc_Rule.l0, if_pos (by simp only [decide_eq_true_eq]; omega), idx_nat h, Option.bind_some, hq _ (List.getElem_mem h), Option.bind_some, List.drop_eq_getElem_cons h, List.findIdx?_cons]
    cases hb : q xs[n]
    · simp only [Bool.false_eq_true, if_false]
      rw [inc n (by omega), IndexFuncR_l0 k hq hl r (n + 1) m (by omega) (by omega)]
      cases (xs.drop (n + 1)).findIdx? q with
      | none => rfl
      | some i => simp only [Option.map_some]; rw [show n + 1 + i = n + (i + 1) by omega]
    · simp
theorem IndexFuncR_at {k : Nat} {xs : List TRule} {p : TRule → Option Bool} {q : TRule → Bool} (hq : ∀ x ∈ xs, p x = some (q x)) (hl : xs.length < 2 ^ 62) (hk : xs.length < k) :
    slices_IndexFunc_Rule k xs p = some (match xs.findIdx? q with | some i => (i : Int) | none => -1) := by
  unfold slices_IndexFunc_Rule
  have h0 := IndexFuncR_l0 k hq hl xs.length 0 k (by omega) hk
  rw [show ((0 : Nat) : Int) = 0 from rfl, List.drop_zero] at h0
  rw [h0]
  cases h : xs.findIdx? q with
  | none => rfl
  | some i => simp
theorem ContainsFuncR_at {k : Nat} {xs : List TRule} {p : TRule → Option Bool} {q : TRule → Bool} (hq : ∀ x ∈ xs, p x = some (q x)) (hl : xs.length < 2 ^ 62) (hk : xs.length < k) :
    slices_ContainsFunc_Rule k xs p = some (xs.any q) := by
  unfold slices_ContainsFunc_Rule
  rw [IndexFuncR_at hq hl hk]
  cases h : xs.findIdx? q with
  | none =>
    rw [List.findIdx?_eq_none_iff] at h
    have : xs.any q = false := by rw [List.any_eq_false]; intro x hx; rw [h x hx]; simp
    rw [this]; rfl
  | some i =>
    rw [List.findIdx?_eq_some_iff_getElem] at h
    obtain ⟨hi, hp, _⟩ := h
    have : xs.any q = true := List.any_eq_true.2 ⟨_, List.getElem_mem hi, hp⟩
    rw [this]
    simp only [Option.bind_some]
    simp
theorem rule_Overlap_at {k : Nat} (hk : 12 < k) {a b : TRule} (ha : RC a.Match) (hb : RC b.Match) : rule_Overlap k a b = some (overB a b) := by
  unfold rule_Overlap overB
  rw [cube_Meet_at hk ha hb, Option.bind_some, meetC_snd, Bool.and_comm]
theorem mods_add_1_at (a b : TRule) : mods_add_1 a b = some (keyB a b) := by
  unfold mods_add_1
  rw [rule_Key_at]; rfl
theorem mods_add_2_at {k : Nat} (hk : 12 < k) {a b : TRule} (ha : RC a.Match) (hb : RC b.Match) : mods_add_2 k a b = some (!keyB a b && overB a b) := by
  unfold mods_add_2
  rw [rule_Key_at, rule_Overlap_at hk ha hb]
  cases keyB a b <;> rfl
theorem key_one {l : List TRule} (h : l.Pairwise fun a b => beB a b = true) {r : TRule} {i j : Nat} (hi : i < l.length) (hj : j < l.length) (ki : keyB l[i] r = true) (kj : keyB l[j] r = true) : i = j := by
  have key : ∀ {i j : Nat} (hi : i < l.length) (hj : j < l.length), keyB l[i] r = true → keyB l[j] r = true → ¬ i < j := fun {i j} hi hj ki kj hlt => by
    have h1 := beB_key (List.pairwise_iff_getElem.1 h i j hi hj hlt)
    rw [keyB_iff] at ki kj
    rw [keyB_iff.2 ⟨ki.1.trans kj.1.symm, ki.2.trans kj.2.symm⟩] at h1
    cases h1
  have := key hi hj ki kj
  have := key hj hi kj ki
  omega
theorem mods_add_at {k : Nat} (hk : 2000 < k) {l : List TRule} {m : TMod} {room : Int} (hm : OkM k m) (hl : ∀ r ∈ l, OkR k r) (hlen : l.length ≤ 1000) (ht : TabOK l) :
    mods_add k l m room = some (if l.any (otherB m) then ([], 7) else if m.Check && l.any (meetB m) then ([], 6) else if !(l.any fun x => keyB x (ruleOf m)) && decide (room ≤ (l.length : Int)) then ([], 3) else (sortF (l ++ [ruleOf m]) [], 0)) := by
  have hall : ∀ x ∈ l ++ [ruleOf m], OkR k x := fun x hx => by
    rcases List.mem_append.1 hx with hx | hx
    · exact hl x hx
    · rw [List.mem_singleton] at hx; subst hx; exact ruleOf_ok hm
  have hsort : (((rule_Copy k l).bind fun x41 => ((app 272 x41 ([ruleOf m])).bind fun x43 => ((rule_Sort k x43).bind fun x45 => some (x45, (0 : Int))))).bind fun (o : (List TRule) × Int) => match o with
        | (x35, x38) => some (x35, x38)) = some (sortF (l ++ [ruleOf m]) [], 0) := by
    rw [rule_Copy_at hl hlen (by omega), Option.bind_some, app_some (by rw [List.length_singleton]; omega), Option.bind_some, rule_Sort_at hk hall (by rw [List.length_append, List.length_singleton]; omega)]
    rfl
  have h6 : ∀ b : Bool, (if b = true then ((slices_ContainsFunc_Rule k l (fun (a0 : TRule) => mods_add_2 k a0 (ruleOf m))).bind fun x29 => some x29) else some false) = some (b && l.any (meetB m)) := fun b => by
    rw [ContainsFuncR_at (q := meetB m) (fun x hx => mods_add_2_at (by omega) (hl x hx).rc hm.rc) (by omega) (by omega)]
    cases b <;> rfl
  unfold mods_add
  rw [mods_Rule_at hm.fit, Option.bind_some, IndexFuncR_at (q := fun x => keyB x (ruleOf m)) (fun x hx => mods_add_1_at x _) (by omega) (by omega), Option.bind_some, hsort]
  simp only [h6, Option.bind_some]
  cases hf : l.findIdx? fun x => keyB x (ruleOf m) with
  | none =>
    rw [List.findIdx?_eq_none_iff] at hf
    have e1 : l.any (otherB m) = false := by
      rw [List.any_eq_false]; intro x hx; unfold otherB; rw [hf x hx]; simp
    have e2 : (l.any fun x => keyB x (ruleOf m)) = false := by
      rw [List.any_eq_false]; intro x hx; rw [hf x hx]; simp
    rw [e1, e2]
    simp only [show decide ((0 : Int) ≤ -1) = false from rfl, show decide ((-1 : Int) < 0) = true from rfl, Bool.false_eq_true, if_false, Option.bind_some, Bool.not_false, Bool.true_and]
    cases m.Check && l.any (meetB m)
    · cases decide (room ≤ (l.length : Int)) <;> rfl
    · rfl
  | some i =>
    rw [List.findIdx?_eq_some_iff_getElem] at hf
    obtain ⟨hi, hki, _⟩ := hf
    have e1 : l.any (otherB m) = (l[i].Owner != m.Owner) := by
      rw [Bool.eq_iff_iff, List.any_eq_true]
      constructor
      · rintro ⟨x, hx, ho⟩
        obtain ⟨j, hj, rfl⟩ := List.mem_iff_getElem.1 hx
        unfold otherB at ho
        rw [Bool.and_eq_true_iff] at ho
        have := key_one ht.2 hi hj hki ho.1
        subst this
        exact ho.2
      · intro ho
        exact ⟨_, List.getElem_mem hi, by unfold otherB; rw [hki, ho]; rfl⟩
    have e2 : (l.any fun x => keyB x (ruleOf m)) = true := List.any_eq_true.2 ⟨_, List.getElem_mem hi, hki⟩
    rw [e1, e2]
    have d1 : decide ((0 : Int) ≤ (i : Int)) = true := by simp
    have d2 : decide ((i : Int) < 0) = false := by simp
    simp only [d1, d2, if_true, idx_nat hi, Option.bind_some, Bool.not_true, Bool.false_and, Bool.false_eq_true, if_false]
    cases l[i].Owner != m.Owner
    · simp only [Bool.false_eq_true, if_false]
      cases m.Check && l.any (meetB m)
      · rfl
      · rfl
    · rfl
theorem mods_Apply_at {k : Nat} (hk : 2000 < k) {l : List TRule} {m : TMod} {room : Int} (hm : OkM k m) (hl : ∀ r ∈ l, OkR k r) (hlen : l.length ≤ 1000) : mods_Apply k l m room = some (applyC l m room) := by
  unfold mods_Apply applyC
  rw [rule_Table_at (by omega) hl (by omega) (by omega), Option.bind_some, mods_Sound_at (by omega) hm]
  cases htb : tabB l
  · rfl
  · cases hmb : modB m
    · rfl
    · simp only [Bool.not_true, Bool.false_eq_true, if_false, Option.bind_some, Bool.and_self]
      cases m.Kind == 1
      · simp only [Bool.false_eq_true, if_false]
        rw [rule_Copy_at hl hlen (by omega), Option.bind_some]
        have h1 := modsApply_l0 k (by omega) hm hl hlen l.length 0 k [] (by omega) (by omega) (by simp)
        rw [show ((0 : Nat) : Int) = 0 from rfl, List.drop_zero, List.nil_append] at h1
        rw [h1]; rfl
      · simp only [if_true]
        rw [mods_add_at hk hm hl hlen (tabB_iff.1 htb), Option.bind_some]
/-! ### What comes out -/
theorem chg_some {m : TMod} {r b : TRule} (h : chg m r = some b) : b = r ∨ b = TRule.setActs r m.Acts := by
  unfold chg at h
  split at h
  · split at h
    · cases h
    · cases h; exact .inr rfl
  · cases h; exact .inl rfl
theorem beB_mp {a b a' b' : TRule} (ha : a'.Match = a.Match ∧ a'.Prio = a.Prio) (hb : b'.Match = b.Match ∧ b'.Prio = b.Prio) : beB a' b' = beB a b := by
  rw [beB_congr_l (keyB_iff.2 ha), beB_congr_r (keyB_iff.2 hb)]
theorem chg_key {m : TMod} {r b : TRule} (h : chg m r = some b) : b.Match = r.Match ∧ b.Prio = r.Prio := by
  rcases chg_some h with rfl | rfl <;> exact ⟨rfl, rfl⟩
theorem modB_acts {m : TMod} (h : modB m = true) : actsB m.Acts = true := by
  unfold modB at h
  simp only [Bool.and_eq_true] at h
  exact h.1.1.1.2
theorem chg_rule {m : TMod} (hm : modB m = true) {r b : TRule} (hr : ruleB r = true) (h : chg m r = some b) : ruleB b = true := by
  rcases chg_some h with rfl | rfl
  · exact hr
  · unfold ruleB at hr ⊢
    simp only [Bool.and_eq_true] at hr ⊢
    obtain ⟨⟨⟨⟨⟨⟨h1, h2⟩, h3⟩, h4⟩, h5⟩, h6⟩, h7⟩ := hr
    exact ⟨⟨⟨⟨⟨⟨h1, modB_acts hm⟩, h3⟩, h4⟩, h5⟩, h6⟩, h7⟩
theorem applyL_ok {m : TMod} (hm : modB m = true) {l : List TRule} (h : TabOK l) : TabOK (applyL m l) := by
  unfold applyL
  constructor
  · intro b hb
    obtain ⟨r, hr, he⟩ := List.mem_filterMap.1 hb
    exact chg_rule hm (h.1 r hr) he
  · rw [List.pairwise_filterMap]
    refine h.2.imp fun {a b} hab a' ha b' hb => ?_
    rw [beB_mp (chg_key ha) (chg_key hb)]; exact hab
theorem applyC_mem {l : List TRule} {m : TMod} {room : Int} {x : TRule} (h : x ∈ (applyC l m room).1) : x ∈ l ∨ x = ruleOf m ∨ ∃ r ∈ l, x = TRule.setActs r m.Acts := by
  unfold applyC at h
  split at h
  · cases h
  · split at h
    · split at h
      · cases h
      · split at h
        · cases h
        · split at h
          · cases h
          · rcases sortF_mem _ _ h with h | h
            · cases h
            · rcases List.mem_append.1 h with h | h
              · exact .inl h
              · rw [List.mem_singleton] at h; exact .inr (.inl h)
    · obtain ⟨r, hr, he⟩ := List.mem_filterMap.1 h
      rcases chg_some he with rfl | rfl
      · exact .inl hr
      · exact .inr (.inr ⟨r, hr, rfl⟩)
theorem applyC_ok {k : Nat} {l : List TRule} {m : TMod} {room : Int} (hm : OkM k m) (hl : ∀ r ∈ l, OkR k r) : ∀ x ∈ (applyC l m room).1, OkR k x := fun x hx => by
  rcases applyC_mem hx with h | rfl | ⟨r, hr, rfl⟩
  · exact hl x h
  · exact ruleOf_ok hm
  · exact ⟨(hl r hr).rc, hm.ua, hm.len, hm.big, hm.fit⟩
theorem applyC_len {l : List TRule} {m : TMod} {room : Int} : (applyC l m room).1.length ≤ l.length + 1 := by
  unfold applyC
  split
  · simp
  · split
    · split
      · simp
      · split
        · simp
        · split
          · simp
          · have := sortF_len (l ++ [ruleOf m]) []
            rw [List.length_append, List.length_singleton, List.length_nil] at this
            show (sortF (l ++ [ruleOf m]) []).length ≤ _
            omega
    · show (applyL m l).length ≤ _
      have := List.length_filterMap_le (chg m) l
      unfold applyL; omega
theorem applyC_tab {l : List TRule} {m : TMod} {room : Int} (h : (applyC l m room).2 = 0) : tabB (applyC l m room).1 = true := by
  unfold applyC at h ⊢
  split
  · rename_i hc; rw [if_pos hc] at h; cases h
  · rename_i hc
    rw [if_neg hc] at h
    simp only [Bool.not_eq_true, Bool.not_eq_false', Bool.and_eq_true] at hc
    have ht := tabB_iff.1 hc.1
    split
    · rename_i hk
      rw [if_pos hk] at h
      split
      · rename_i h1; rw [if_pos h1] at h; cases h
      · rename_i h1
        rw [if_neg h1] at h
        split
        · rename_i h2; rw [if_pos h2] at h; cases h
        · rename_i h2
          rw [if_neg h2] at h
          split
          · rename_i h3; rw [if_pos h3] at h; cases h
          · exact tabB_iff.2 (sortF_ok _ _ ⟨by simp, by simp⟩)
    · exact tabB_iff.2 (applyL_ok hc.2 ht)
/-! ### The law -/
theorem SameActs_l0 (k : Nat) {a : List TAct} (h2 : a.length < 2 ^ 63) : ∀ (r n m : Nat), n + r = a.length → r < m → ref04_SameActs.l0 k a a m (n : Int) = some (.brk ())
  | r, n, 0, _, h => by omega
  | 0, n, m + 1, hn, _ => by
    rw [ref04_SameActs.l0, if_neg (by simp only [decide_eq_true_eq]; omega)]
  | r + 1, n, m + 1, hn, hm => by
    have h : n < a.length := by omega
    have hc : cellsEq (TAct.enc a[n]) (TAct.enc a[n]) = true := cellsEq_refl _ (by simp [TAct.enc, leafEq])
    rw [ref04_SameActs.l0, if_pos (by simp only [decide_eq_true_eq]; omega), idx_nat h, Option.bind_some, Option.bind_some, hc, if_neg (by simp), inc63 n (by omega)]
    exact SameActs_l0 k h2 r (n + 1) m (by omega) (by omega)
theorem SameActs_refl {k : Nat} {a : List TAct} (h : a.length < k) (h2 : a.length < 2 ^ 63) : ref04_SameActs k a a = some true := by
  unfold ref04_SameActs
  rw [if_neg (by simp), show (0 : Int) = ((0 : Nat) : Int) from rfl, SameActs_l0 k h2 a.length 0 k (by omega) h]
  rfl
theorem Equal_refl {k : Nat} {x : TRule} (h : OkR k x) : ref04_Equal k x x = some true := by
  unfold ref04_Equal
  rw [ref04_Key_at, keyB_iff.2 ⟨rfl, rfl⟩, SameActs_refl h.len h.big]
  simp
theorem Same_l0 (k : Nat) {l : List TRule} (hl : ∀ r ∈ l, OkR k r) (h2 : l.length < 2 ^ 62) : ∀ (r n m : Nat), n + r = l.length → r < m → ref04_Same.l0 k l l m (n : Int) = some (.brk ())
  | r, n, 0, _, h => by omega
  | 0, n, m + 1, hn, _ => by
    rw [ref04_Same.l0, if_neg (by simp only [decide_eq_true_eq]; omega)]
  | r + 1, n, m + 1, hn, hm => by
    have h : n < l.length := by omega
    rw [ref04_Same.l0, if_pos (by simp only [decide_eq_true_eq]; omega), idx_nat h, Option.bind_some, Option.bind_some, Equal_refl (hl _ (List.getElem_mem h)), Option.bind_some, if_neg (by simp), inc n (by omega)]
    exact Same_l0 k hl h2 r (n + 1) m (by omega) (by omega)
theorem Same_refl {k : Nat} {l : List TRule} (hl : ∀ r ∈ l, OkR k r) (h : l.length < k) (h2 : l.length < 2 ^ 62) : ref04_Same k l l = some true := by
  unfold ref04_Same
  rw [if_neg (by simp), show (0 : Int) = ((0 : Nat) : Int) from rfl, Same_l0 k hl h2 l.length 0 k (by omega) h]
  rfl
theorem RC_zero : RC TCube.zero := by
  constructor <;> intro i hi <;> match i, hi with
  | 0, _ | 1, _ | 2, _ | 3, _ | 4, _ | 5, _ | 6, _ | 7, _ | 8, _ | 9, _ | 10, _ | 11, _ => exact ⟨by decide, by decide⟩
end Go.Proofs.YtgfnkigoaajllaaGreat
