/- What undo.Inverse makes of a change. -/
import Derived.Test.YtgfnkigoaajllaaGreatN1
set_option linter.unusedVariables false
set_option linter.unusedSimpArgs false
set_option maxRecDepth 100000
namespace Go.Proofs.YtgfnkigoaajllaaGreat
open Go.RowKit Go.Pod

theorem act_eq {a b : TAct} : cellsEq (TAct.enc a) (TAct.enc b) = true ↔ a = b := by
  obtain ⟨a1, a2, a3, a4⟩ := a
  obtain ⟨b1, b2, b3, b4⟩ := b
  simp [TAct.enc, cellsEq, leafEq, and_assoc]
noncomputable def eqL (a b : List TAct) : Bool := @decide (a = b) (Classical.propDecidable _)
theorem eqL_iff {a b : List TAct} : eqL a b = true ↔ a = b := by
  unfold eqL
  exact @decide_eq_true_iff _ (Classical.propDecidable _)
theorem eqL_cons (x y : TAct) (a b : List TAct) : eqL (x :: a) (y :: b) = (cellsEq (TAct.enc x) (TAct.enc y) && eqL a b) := by
  rw [Bool.eq_iff_iff, Bool.and_eq_true_iff, eqL_iff, eqL_iff, act_eq, List.cons.injEq]
theorem EqualA_l0 (k : Nat) {a b : List TAct} (hab : a.length = b.length) (h2 : a.length < 2 ^ 63) : ∀ (r n m : Nat), n + r = a.length → r < m → slices_Equal_Act.l0 k a b m (n : Int) = some (if eqL (a.drop n) (b.drop n) then .brk () else .ret false)
  | r, n, 0, _, h => by omega
  | 0, n, m + 1, hn, _ => by
    rw [slices_Equal_Act.l0, if_neg (by simp only [decide_eq_true_eq]; omega), List.drop_eq_nil_of_le (by omega), List.drop_eq_nil_of_le (by omega), eqL_iff.2 rfl]; rfl
  | r + 1, n, m + 1, hn, hm => by
    have h : n < a.length := by omega
    have h' : n < b.length := by omega
    rw [slices_Equal_Act.l0, if_pos (by simp only [decide_eq_true_eq]; omega), idx_nat h, Option.bind_some, idx_nat h', Option.bind_some, inc63 n (by omega), List.drop_eq_getElem_cons h, List.drop_eq_getElem_cons h', eqL_cons]
    cases cellsEq (TAct.enc a[n]) (TAct.enc b[n])
    · simp
    · rw [if_neg (by simp), Bool.true_and]
      exact EqualA_l0 k hab h2 r (n + 1) m (by omega) (by omega)
theorem act_Same_at {k : Nat} {a b : List TAct} (h : a.length < k) (h2 : a.length < 2 ^ 63) : act_Same k a b = some (eqL a b) := by
  unfold act_Same slices_Equal_Act
  by_cases hab : a.length = b.length
  · have h0 := EqualA_l0 k hab h2 a.length 0 k (by omega) h
    rw [show ((0 : Nat) : Int) = 0 from rfl, List.drop_zero, List.drop_zero] at h0
    rw [if_neg (by simp [hab]), h0]
    cases eqL a b <;> rfl
  · have : eqL a b = false := by
      cases he : eqL a b
      · rfl
      · rw [eqL_iff] at he; rw [he] at hab; exact absurd rfl hab
    rw [if_pos (by simp; omega), this]; rfl
theorem rule_Equal_at {k : Nat} {a b : TRule} (h : OkR k a) : rule_Equal k a b = some (eqB a b) := by
  unfold rule_Equal
  rw [act_Same_at h.len h.big, Option.bind_some, rule_Key_at, Option.bind_some]
  congr 1
  rw [Bool.eq_iff_iff, eqB_iff]
  simp only [Bool.and_eq_true, eqL_iff, keyB_iff, beq_iff_eq]
  obtain ⟨a1, a2, a3, a4, a5, a6, a7, a8, a9⟩ := a
  obtain ⟨b1, b2, b3, b4, b5, b6, b7, b8, b9⟩ := b
  simp only [TRule.setActs, TRule.mk.injEq]
  constructor
  · rintro ⟨⟨⟨⟨⟨⟨⟨h1, h2, h3⟩, h4⟩, h5⟩, h6⟩, h7⟩, h8⟩, h9⟩
    exact ⟨h2, h3, h1, h4, h5, h6, h7, h8, h9⟩
  · rintro ⟨h2, h3, h1, h4, h5, h6, h7, h8, h9⟩
    exact ⟨⟨⟨⟨⟨⟨⟨h1, h2, h3⟩, h4⟩, h5⟩, h6⟩, h7⟩, h8⟩, h9⟩
theorem aloneL_drop {a b : List TRule} {n : Nat} (h : n < a.length) : aloneL (a.drop n) b = (if b.any (fun x => eqB a[n] x) then [] else [a[n]]) ++ aloneL (a.drop (n + 1)) b := by
  unfold aloneL
  rw [List.drop_eq_getElem_cons h, List.filter_cons]
  cases b.any (fun x => eqB a[n] x) <;> rfl
theorem alone_l0 (k : Nat) {a b : List TRule} (ha : ∀ r ∈ a, OkR k r) (hal : a.length ≤ 1000) (hbl : b.length ≤ 1000) (hbk : b.length < k) : ∀ (r n m : Nat) (out : List TRule), n + r = a.length → r < m → out.length ≤ n →
    undo_alone.l0 k a b m out (n : Int) = some (out ++ aloneL (a.drop n) b)
  | r, n, 0, _, _, h, _ => by omega
  | 0, n, m + 1, out, hn, _, _ => by
    rw [undo_alone.l0, if_neg (by simp only [decide_eq_true_eq]; omega), List.drop_eq_nil_of_le (by omega)]
    simp [aloneL]
  | r + 1, n, m + 1, out, hn, hm, ho => by
    have h : n < a.length := by omega
    rw [undo_alone.l0, if_pos (by simp only [decide_eq_true_eq]; omega), idx_nat h, Option.bind_some,
      ContainsFuncR_at (q := fun x => eqB a[n] x) (fun x hx => by unfold undo_alone_1; rw [rule_Equal_at (ha _ (List.getElem_mem h))]; rfl) (by omega) hbk, Option.bind_some, inc n (by omega), aloneL_drop h]
    cases b.any (fun x => eqB a[n] x)
    · simp only [Bool.not_false, if_true, Bool.false_eq_true, if_false]
      rw [app_some (by rw [List.length_singleton]; omega)]
      simp only [Option.bind_some]
      rw [alone_l0 k ha hal hbl hbk r (n + 1) m _ (by omega) (by omega) (by rw [List.length_append, List.length_singleton]; omega), List.append_assoc]
    · simp only [Bool.not_true, Bool.false_eq_true, if_false, if_true, Option.bind_some, List.nil_append]
      exact alone_l0 k ha hal hbl hbk r (n + 1) m _ (by omega) (by omega) (by omega)
theorem aloneL_len (a b : List TRule) : (aloneL a b).length ≤ a.length := (aloneL_sub a b).length_le
theorem aloneL_ok {k : Nat} {a b : List TRule} (ha : ∀ r ∈ a, OkR k r) : ∀ r ∈ aloneL a b, OkR k r := fun r hr => ha r (aloneL_mem.1 hr).1
theorem alone_at {k : Nat} (hk : 2000 < k) {a b : List TRule} (ha : ∀ r ∈ a, OkR k r) (hal : a.length ≤ 1000) (hbl : b.length ≤ 1000) : undo_alone k a b = some (aloneL a b) := by
  have hl := aloneL_len a b
  unfold undo_alone
  have h0 := alone_l0 k ha hal hbl (by omega) a.length 0 k [] (by omega) (by omega) (by simp)
  rw [show ((0 : Nat) : Int) = 0 from rfl, List.drop_zero, List.nil_append] at h0
  rw [h0, Option.bind_some, rule_Copy_at (aloneL_ok ha) (by omega) (by omega)]; rfl
noncomputable def diffP (a b : List TRule) : Tundo_Patch := { Gone := aloneL a b, New := aloneL b a }
theorem Diff_at {k : Nat} (hk : 2000 < k) {a b : List TRule} (ha : ∀ r ∈ a, OkR k r) (hb : ∀ r ∈ b, OkR k r) (hal : a.length ≤ 1000) (hbl : b.length ≤ 1000) (ta : TabOK a) (tb : TabOK b) : undo_Diff k a b = some (diffP a b) := by
  unfold undo_Diff
  rw [rule_Table_at (by omega) ha (by omega) (by omega), tabB_iff.2 ta, rule_Table_at (by omega) hb (by omega) (by omega), tabB_iff.2 tb, alone_at hk ha hal hbl, alone_at hk hb hbl hal]
  rfl
theorem applyC_src {l : List TRule} {m : TMod} {room : Int} (h : (applyC l m room).2 = 0) : TabOK l := by
  unfold applyC at h
  split at h
  · cases h
  · rename_i hc
    simp only [Bool.not_eq_true, Bool.not_eq_false', Bool.and_eq_true] at hc
    exact tabB_iff.1 hc.1
theorem Inverse_at {k : Nat} (hk : 2000 < k) {l : List TRule} {m : TMod} {room : Int} (hm : OkM k m) (hl : ∀ r ∈ l, OkR k r) (hlen : l.length ≤ 999) :
    undo_Inverse k l m room = some (if (applyC l m room).2 = 0 then ((applyC l m room).1, diffP l (applyC l m room).1, 0) else ([], Tundo_Patch.zero, (applyC l m room).2)) := by
  have hal := applyC_len (l := l) (m := m) (room := room)
  unfold undo_Inverse
  rw [mods_Apply_at hk hm hl (by omega), Option.bind_some]
  by_cases h : (applyC l m room).2 = 0
  · rw [if_neg (by simp [h]), if_pos h, Diff_at hk hl (applyC_ok hm hl) (by omega) (by omega) (applyC_src h) (tabB_iff.1 (applyC_tab h))]
    rfl
  · rw [if_pos (by simpa using h), if_neg h]
end Go.Proofs.YtgfnkigoaajllaaGreat
