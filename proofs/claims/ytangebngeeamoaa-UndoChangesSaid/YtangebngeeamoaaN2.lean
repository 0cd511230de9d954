/- UndoChanges: what the program makes, and the law. -/
import Derived.Test.YtangebngeeamoaaN1
set_option linter.unusedVariables false
set_option linter.unusedSimpArgs false
set_option maxRecDepth 100000
namespace Go.Proofs.Ytangebngeeamoaa
open Go.RowKit Go.Pod

theorem act_eq {a b : TAct} : cellsEq (TAct.enc a) (TAct.enc b) = true ↔ a = b := by
  obtain ⟨a1, a2, a3, a4⟩ := a
  obtain ⟨b1, b2, b3, b4⟩ := b
  simp [TAct.enc, cellsEq, leafEq, and_assoc]
noncomputable def eqL (a b : List TAct) : Bool := @decide (a = b) (Classical.propDecidable _)
theorem eqL_iff {a b : List TAct} : eqL a b = true ↔ a = b := by
  unfold eqL
  exact @decide_eq_true_iff _ (Classical.propDecidable _)
theorem eqL_cons (x y : TAct) (a b : List TAct) : eqL (x :: a) (y :: b) = (cellsEq (TAct.enc x) (TAct.enc y) && eqL a b) := by
  rw [Bool.eq_iff_iff, Bool.and_eq_true_iff, eqL_iff, eqL_iff, act_eq, List.cons.injEq]
theorem EqualA_l0 (k : Nat) {a b : List TAct} (hab : a.length = b.length) (h2 : a.length < 2 ^ 63) : ∀ (r n m : Nat), n + r = a.length → r < m → slices_Equal_Act.l0 k a b m (n : Int) = some (if eqL (a.drop n) (b.drop n) then .brk () else .ret false)
  | r, n, 0, _, h => by omega
  | 0, n, m + 1, hn, _ => by
    rw [slices_Equal_Act.l0, if_neg (by simp only [decide_eq_true_eq]; omega), List.drop_eq_nil_of_le (by omega), List.drop_eq_nil_of_le (by omega), eqL_iff.2 rfl]; rfl
  | r + 1, n, m + 1, hn, hm => by
    have h : n < a.length := by omega
    have h' : n < b.length := by omega
    rw [slices_Equal_Act.l0, if_pos (by simp only [decide_eq_true_eq]; omega), idx_nat h, Option.bind_some, idx_nat h', Option.bind_some, inc63 n (by omega), List.drop_eq_getElem_cons h, List.drop_eq_getElem_cons h', eqL_cons]
    cases cellsEq (TAct.enc a[n]) (TAct.enc b[n])
    · simp
    · rw [if_neg (by simp), Bool.true_and]
      exact EqualA_l0 k hab h2 r (n + 1) m (by omega) (by omega)
theorem act_Same_at {k : Nat} {a b : List TAct} (h : a.length < k) (h2 : a.length < 2 ^ 63) : act_Same k a b = some (eqL a b) := by
  unfold act_Same slices_Equal_Act
  by_cases hab : a.length = b.length
  · have h0 := EqualA_l0 k hab h2 a.length 0 k (by omega) h
    rw [show ((0 : Nat) : Int) = 0 from rfl, List.drop_zero, List.drop_zero] at h0
    rw [if_neg (by simp [hab]), h0]
    cases eqL a b <;> rfl
  · have : eqL a b = false := by
      cases he : eqL a b
      · rfl
      · rw [eqL_iff] at he; rw [he] at hab; exact absurd rfl hab
    rw [if_pos (by simp; omega), this]; rfl
theorem rule_Equal_at {k : Nat} {a b : TRule} (h : OkR k a) : rule_Equal k a b = some (eqB a b) := by
  unfold rule_Equal
  rw [act_Same_at h.len h.big, Option.bind_some, rule_Key_at, Option.bind_some]
  congr 1
  rw [Bool.eq_iff_iff, eqB_iff]
  simp only [Bool.and_eq_true, eqL_iff, keyB_iff, beq_iff_eq]
  obtain ⟨a1, a2, a3, a4, a5, a6, a7, a8, a9⟩ := a
  obtain ⟨b1, b2, b3, b4, b5, b6, b7, b8, b9⟩ := b
  simp only [TRule.setActs, TRule.mk.injEq]
  constructor
  · rintro ⟨⟨⟨⟨⟨⟨⟨h1, h2, h3⟩, h4⟩, h5⟩, h6⟩, h7⟩, h8⟩, h9⟩
    exact ⟨h2, h3, h1, h4, h5, h6, h7, h8, h9⟩
  · rintro ⟨h2, h3, h1, h4, h5, h6, h7, h8, h9⟩
    exact ⟨⟨⟨⟨⟨⟨⟨h1, h2, h3⟩, h4⟩, h5⟩, h6⟩, h7⟩, h8⟩, h9⟩
theorem aloneL_drop {a b : List TRule} {n : Nat} (h : n < a.length) : aloneL (a.drop n) b = (if b.any (fun x => eqB a[n] x) then [] else [a[n]]) ++ aloneL (a.drop (n + 1)) b := by
  unfold aloneL
  rw [List.drop_eq_getElem_cons h, List.filter_cons]
  cases b.any (fun x => eqB a[n] x) <;> rfl
theorem alone_l0 (k : Nat) {a b : List TRule} (ha : ∀ r ∈ a, OkR k r) (hal : a.length ≤ 1000) (hbl : b.length ≤ 1000) (hbk : b.length < k) : ∀ (r n m : Nat) (out : List TRule), n + r = a.length → r < m → out.length ≤ n →
    undo_alone.l0 k a b m out (n : Int) = some (out ++ aloneL (a.drop n) b)
  | r, n, 0, _, _, h, _ => by omega
  | 0, n, m + 1, out, hn, _, _ => by
    rw [undo_alone.l0, if_neg (by simp only [decide_eq_true_eq]; omega), List.drop_eq_nil_of_le (by omega)]
    simp [aloneL]
  | r + 1, n, m + 1, out, hn, hm, ho => by
    have h : n < a.length := by omega
    rw [undo_alone.l0, if_pos (by simp only [decide_eq_true_eq]; omega), idx_nat h, Option.bind_some,
      ContainsFuncR_at (q := fun x => eqB a[n] x) (fun x hx => by unfold undo_alone_1; rw [rule_Equal_at (ha _ (List.getElem_mem h))]; rfl) (by omega) hbk, Option.bind_some, inc n (by omega), aloneL_drop h]
    cases b.any (fun x => eqB a[n] x)
    · simp only [Bool.not_false, if_true, Bool.false_eq_true, if_false]
      rw [app_some (by rw [List.length_singleton]; omega)]
      simp only [Option.bind_some]
      rw [alone_l0 k ha hal hbl hbk r (n + 1) m _ (by omega) (by omega) (by rw [List.length_append, List.length_singleton]; omega), List.append_assoc]
    · simp only [Bool.not_true, Bool.false_eq_true, if_false, if_true, Option.bind_some, List.nil_append]
      exact alone_l0 k ha hal hbl hbk r (n + 1) m _ (by omega) (by omega) (by omega)
theorem aloneL_len (a b : List TRule) : (aloneL a b).length ≤ a.length := (aloneL_sub a b).length_le
theorem aloneL_ok {k : Nat} {a b : List TRule} (ha : ∀ r ∈ a, OkR k r) : ∀ r ∈ aloneL a b, OkR k r := fun r hr => ha r (aloneL_mem.1 hr).1
theorem alone_at {k : Nat} (hk : 2000 < k) {a b : List TRule} (ha : ∀ r ∈ a, OkR k r) (hal : a.length ≤ 1000) (hbl : b.length ≤ 1000) : undo_alone k a b = some (aloneL a b) := by
  have hl := aloneL_len a b
  unfold undo_alone
  have h0 := alone_l0 k ha hal hbl (by omega) a.length 0 k [] (by omega) (by omega) (by simp)
  rw [show ((0 : Nat) : Int) = 0 from rfl, List.drop_zero, List.nil_append] at h0
  rw [h0, Option.bind_some, rule_Copy_at (aloneL_ok ha) (by omega) (by omega)]; rfl
noncomputable def diffP (a b : List TRule) : Tundo_Patch := { Gone := aloneL a b, New := aloneL b a }
theorem Diff_at {k : Nat} (hk : 2000 < k) {a b : List TRule} (ha : ∀ r ∈ a, OkR k r) (hb : ∀ r ∈ b, OkR k r) (hal : a.length ≤ 1000) (hbl : b.length ≤ 1000) (ta : TabOK a) (tb : TabOK b) : undo_Diff k a b = some (diffP a b) := by
  unfold undo_Diff
  rw [rule_Table_at (by omega) ha (by omega) (by omega), tabB_iff.2 ta, rule_Table_at (by omega) hb (by omega) (by omega), tabB_iff.2 tb, alone_at hk ha hal hbl, alone_at hk hb hbl hal]
  rfl
theorem applyC_src {l : List TRule} {m : TMod} {room : Int} (h : (applyC l m room).2 = 0) : TabOK l := by
  unfold applyC at h
  split at h
  · cases h
  · rename_i hc
    simp only [Bool.not_eq_true, Bool.not_eq_false', Bool.and_eq_true] at hc
    exact tabB_iff.1 hc.1
theorem Inverse_at {k : Nat} (hk : 2000 < k) {l : List TRule} {m : TMod} {room : Int} (hm : OkM k m) (hl : ∀ r ∈ l, OkR k r) (hlen : l.length ≤ 999) :
    undo_Inverse k l m room = some (if (applyC l m room).2 = 0 then ((applyC l m room).1, diffP l (applyC l m room).1, 0) else ([], Tundo_Patch.zero, (applyC l m room).2)) := by
  have hal := applyC_len (l := l) (m := m) (room := room)
  unfold undo_Inverse
  rw [mods_Apply_at hk hm hl (by omega), Option.bind_some]
  by_cases h : (applyC l m room).2 = 0
  · rw [if_neg (by simp [h]), if_pos h, Diff_at hk hl (applyC_ok hm hl) (by omega) (by omega) (applyC_src h) (tabB_iff.1 (applyC_tab h))]
    rfl
  · rw [if_pos (by simpa using h), if_neg h]
theorem swap_l0 (k : Nat) {a b : List TRule} (ha : TabOK a) (hal : a.length ≤ 1000) (hbl : b.length ≤ 1000) (hbk : b.length < k) : ∀ (r n m : Nat), n + r = (aloneL a b).length → r < m →
    undo_swap.l0 k (aloneL a b) (aloneL b (aloneL b a)) m (n : Int) = some (.brk ())
  | r, n, 0, _, h => by omega
  | 0, n, m + 1, hn, _ => by
    rw [undo_swap.l0, if_neg (by simp only [decide_eq_true_eq]; omega)]
  | r + 1, n, m + 1, hn, hm => by
    have h : n < (aloneL a b).length := by omega
    have hle := aloneL_len a b
    have hle2 := aloneL_len b (aloneL b a)
    have hno : (aloneL b (aloneL b a)).any (fun x => keyB x (aloneL a b)[n]) = false := by
      rw [List.any_eq_false]
      intro x hx
      rw [no_clash ha (List.getElem_mem h) hx]; simp
    rw [undo_swap.l0, if_pos (by simp only [decide_eq_true_eq]; omega), idx_nat h, Option.bind_some,
      ContainsFuncR_at (q := fun x => keyB x (aloneL a b)[n]) (fun x hx => by unfold undo_swap_1; rw [rule_Key_at]; rfl) (by omega) (by omega), Option.bind_some, hno, if_neg (by simp), inc n (by omega)]
    exact swap_l0 k ha hal hbl hbk r (n + 1) m (by omega) (by omega)
theorem Back_at {k : Nat} (hk : 2000 < k) {a b : List TRule} (ha : ∀ r ∈ a, OkR k r) (hb : ∀ r ∈ b, OkR k r) (hal : a.length ≤ 500) (hbl : b.length ≤ 500) (ta : TabOK a) (tb : TabOK b) : undo_Back k b (diffP a b) = some (a, 0) := by
  have l1 := aloneL_len b (aloneL b a)
  have l2 := aloneL_len a b
  have l3 := aloneL_len b a
  have h0 := swap_l0 k ta (by omega) (by omega) (by omega) (b := b) (aloneL a b).length 0 k (by omega) (by omega)
  rw [show ((0 : Nat) : Int) = 0 from rfl] at h0
  have hall : ∀ x ∈ aloneL b (aloneL b a) ++ aloneL a b, OkR k x := fun x hx => by
    rcases List.mem_append.1 hx with hx | hx
    · exact aloneL_ok hb x hx
    · exact aloneL_ok ha x hx
  show ((undo_swap k b (aloneL b a) (aloneL a b)).bind _) = _
  unfold undo_swap
  rw [rule_Table_at (by omega) hb (by omega) (by omega), tabB_iff.2 tb, rule_Table_at (by omega) (aloneL_ok hb) (by omega) (by omega), tabB_iff.2 (tb.sub (aloneL_sub _ _)), rule_Table_at (by omega) (aloneL_ok ha) (by omega) (by omega), tabB_iff.2 (ta.sub (aloneL_sub _ _)),
    alone_at hk (aloneL_ok hb) (by omega) (by omega), gone_nil, alone_at hk hb (by omega) (by omega)]
  simp only [Option.bind_some, Bool.not_true, Bool.false_eq_true, if_false]
  rw [if_neg (by simp), h0]
  simp only [Option.bind_some]
  rw [app_some (by omega), Option.bind_some, rule_Sort_at hk hall (by rw [List.length_append]; omega), back_eq ta tb]
  rfl
/-! ### The law -/
def am8 : TMod := { Kind := 1, Match := TCube.zero, Prio := 0, Acts := [], Idle := 0, Hard := 0, Owner := 0, Check := false }
theorem answers08 {k : Nat} (hk : 2000 < k) : law08_answers k = some true := by
  have hok : OkM k am8 := ⟨RC_zero, by simp [am8], by simp [am8]; omega, by simp [am8], by simp [am8]⟩
  have e1 : applyC [] am8 5 = ([ruleOf am8], 0) := by kernel_rfl
  have hr : ∀ r ∈ [ruleOf am8], OkR k r := fun r hr => by rw [List.mem_singleton] at hr; subst hr; exact ruleOf_ok hok
  have ht : TabOK [ruleOf am8] := by
    have := applyC_tab (l := []) (m := am8) (room := 5) (by rw [e1])
    rw [e1] at this
    exact tabB_iff.1 this
  unfold law08_answers
  show ((undo_Inverse k [] am8 5).bind _) = _
  rw [Inverse_at hk hok (by simp) (by simp), e1, if_pos rfl, Option.bind_some]
  show ((undo_Back k [ruleOf am8] (diffP [] [ruleOf am8])).bind _) = _
  rw [Back_at hk (by simp) hr (by simp) (by simp) ⟨by simp, by simp⟩ ht, Option.bind_some]
  rfl
/-- A log that leads back. -/
inductive Chain (k : Nat) (l : List TRule) : List Tundo_Patch → List TRule → Prop
  | nil : Chain k l [] l
  | snoc {log : List Tundo_Patch} {prev now : List TRule} (h : Chain k l log prev) (hp : ∀ r ∈ prev, OkR k r) (hn : ∀ r ∈ now, OkR k r) (lp : prev.length ≤ 500) (ln : now.length ≤ 500) (tp : TabOK prev) (tn : TabOK now) : Chain k l (log ++ [diffP prev now]) now
theorem Undo_l1 {k : Nat} (hk : 2000 < k) {l : List TRule} {log : List Tundo_Patch} {now : List TRule} (h : Chain k l log now) : ∀ (rest : List Tundo_Patch) (m : Nat), (log ++ rest).length < 2 ^ 60 → log.length < m →
    law08_UndoChanges.l1 k (log ++ rest) m now ((log.length : Int) - 1) = some (.brk l) := by
  induction h with
  | nil =>
    intro rest m hl hm
    obtain ⟨m, rfl⟩ : ∃ m', m = m' + 1 := ⟨m - 1, by omega⟩
    rw [law08_UndoChanges.l1, if_neg (by simp)]
  | @snoc log prev now h hp hn lp ln tp tn ih =>
    intro rest m hl hm
    obtain ⟨m, rfl⟩ : ∃ m', m = m' + 1 := ⟨m - 1, by omega⟩
    simp only [List.length_append, List.length_singleton] at hl hm ⊢
    have e : (((log.length + 1 : Nat) : Int) - 1) = ((log.length : Nat) : Int) := by omega
    have hi : log.length < ((log ++ [diffP prev now]) ++ rest).length := by simp only [List.length_append, List.length_singleton]; omega
    have hg : ((log ++ [diffP prev now]) ++ rest)[log.length] = diffP prev now := by simp
    rw [e, law08_UndoChanges.l1, if_pos (by simp), idx_nat hi, Option.bind_some, hg, Back_at hk hp hn lp ln tp tn, Option.bind_some, if_neg (by simp), wrapI (by omega) (by omega), List.append_assoc]
    exact ih _ m (by simp only [List.length_append, List.length_singleton]; omega) (by omega)
theorem Undo_l0 {k : Nat} (hk : 2000 < k) {l : List TRule} {list : List TMod} {room : Int} (hm : ∀ m ∈ list, OkM k m) (hll : list.length ≤ 12) : ∀ (r n f : Nat) (log : List Tundo_Patch) (now : List TRule), n + r = list.length → r < f →
    Chain k l log now → (∀ x ∈ now, OkR k x) → now.length ≤ 40 + n → log.length ≤ n →
    law08_UndoChanges.l0 k list room f log now (n : Int) = some (.ret true) ∨ ∃ log' now', law08_UndoChanges.l0 k list room f log now (n : Int) = some (.brk (log', now')) ∧ Chain k l log' now' ∧ log'.length ≤ 12
  | r, n, 0, _, _, _, h, _, _, _, _ => by omega
  | 0, n, f + 1, log, now, hn, _, hc, ho, hl, hg => by
    right
    refine ⟨log, now, ?_, hc, by omega⟩
    rw [law08_UndoChanges.l0, if_neg (by simp only [decide_eq_true_eq]; omega)]
  | r + 1, n, f + 1, log, now, hn, hf, hc, ho, hl, hg => by
    have h : n < list.length := by omega
    have hmn := hm _ (List.getElem_mem h)
    have hal := applyC_len (l := now) (m := list[n]) (room := room)
    have hao := applyC_ok (room := room) hmn ho
    rw [law08_UndoChanges.l0, if_pos (by simp only [decide_eq_true_eq]; omega), idx_nat h, Option.bind_some]
    by_cases ha : 20 < list[n].Acts.length
    · left
      rw [if_pos (by simp only [decide_eq_true_eq]; omega), answers08 hk]; rfl
    · rw [if_neg (by simp only [decide_eq_true_eq]; omega), Inverse_at hk hmn ho (by omega), Option.bind_some, ref04_Apply_at hk hmn ho (by omega), Option.bind_some]
      by_cases h0 : (applyC now list[n] room).2 = 0
      · rw [if_pos h0]
        simp only [h0]
        rw [Same_refl hao (by omega) (by omega)]
        simp only [bne_self_eq_false, beq_self_eq_true, Bool.false_eq_true, if_false, Option.bind_some, Bool.not_true, Bool.false_and, Bool.or_false, if_true]
        rw [app_some (by rw [List.length_singleton]; omega)]
        simp only [Option.bind_some]
        rw [inc n (by omega)]
        exact Undo_l0 hk hm hll r (n + 1) f _ _ (by omega) (by omega) (.snoc hc ho hao (by omega) (by omega) (applyC_src h0) (tabB_iff.1 (applyC_tab h0))) hao (by omega) (by rw [List.length_append, List.length_singleton]; omega)
      · have hnil : (applyC now list[n] room).1 = [] := by
          unfold applyC at h0 ⊢
          split
          · rfl
          · rename_i hc1
            rw [if_neg hc1] at h0
            split
            · rename_i hk1
              rw [if_pos hk1] at h0
              split
              · rfl
              · rename_i h1
                rw [if_neg h1] at h0
                split
                · rfl
                · rename_i h2
                  rw [if_neg h2] at h0
                  split
                  · rfl
                  · rename_i h3
                    rw [if_neg h3] at h0
                    exact absurd rfl h0
            · rename_i hk1
              rw [if_neg hk1] at h0
              exact absurd rfl h0
        rw [if_neg h0, hnil, Same_refl (by simp) (by simp; omega) (by simp)]
        have hz : (0 : Int) < IntKind.i64.wrap (((Tundo_Patch.zero.Gone.length : Nat) : Int) + ((Tundo_Patch.zero.New.length : Nat) : Int)) ↔ False := by
          rw [show IntKind.i64.wrap (((Tundo_Patch.zero.Gone.length : Nat) : Int) + ((Tundo_Patch.zero.New.length : Nat) : Int)) = 0 from rfl]
          simp
        have hne : ((applyC now list[n] room).2 == 0) = false := by simpa using h0
        simp only [bne_self_eq_false, Bool.false_eq_true, if_false, Option.bind_some, Bool.not_true, hz, decide_false, Bool.and_false, Bool.or_false, hne]
        rw [inc n (by omega)]
        exact Undo_l0 hk hm hll r (n + 1) f _ _ (by omega) (by omega) hc ho (by omega) (by omega)
theorem law_UndoChanges {k : Nat} (hk : 2000 < k) {l : List TRule} {list : List TMod} {room : Int} (hm : ∀ m ∈ list, OkM k m) (hl : ∀ r ∈ l, OkR k r) : law08_UndoChanges k l list room = some true := by
  unfold law08_UndoChanges
  by_cases h : 40 < l.length ∨ 12 < list.length
  · rw [if_pos (by simp only [Bool.or_eq_true, decide_eq_true_eq]; omega), answers08 hk]; rfl
  · rw [if_neg (by simp only [Bool.or_eq_true, decide_eq_true_eq]; omega)]
    rcases Undo_l0 (room := room) hk hm (by omega) list.length 0 k [] l (by omega) (by omega) (.nil (k := k) (l := l)) hl (by omega) (by simp) with h0 | ⟨log, now, h0, hc, hg⟩
    · rw [show ((0 : Nat) : Int) = 0 from rfl] at h0
      rw [h0]; rfl
    · rw [show ((0 : Nat) : Int) = 0 from rfl] at h0
      have h1 := Undo_l1 hk hc [] k (by simp; omega) (by omega)
      rw [List.append_nil] at h1
      rw [h0, Option.bind_some]
      simp only
      rw [wrapI (by omega) (by omega), h1, Option.bind_some]
      simp only
      rw [answers08 hk, Option.bind_some, Same_refl hl (by omega) (by omega)]
      rfl
end Go.Proofs.Ytangebngeeamoaa
