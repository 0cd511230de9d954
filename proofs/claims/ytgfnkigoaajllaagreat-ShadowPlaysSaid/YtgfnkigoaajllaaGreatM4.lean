/- The plain law of ModsApply. -/
import Derived.Test.YtgfnkigoaajllaaGreatM3
import Derived.KernelRfl
set_option linter.unusedVariables false
set_option linter.unusedSimpArgs false
set_option maxRecDepth 100000
namespace Go.Proofs.YtgfnkigoaajllaaGreat
open Go.RowKit Go.Pod

def ruleOf (m : TMod) : TRule := { Match := m.Match, Prio := m.Prio, Acts := m.Acts, Idle := m.Idle, Hard := m.Hard, Owner := m.Owner, Hits := 0, Quiet := 0, Age := 0 }
theorem ruleOf_ok {k : Nat} {m : TMod} (h : OkM k m) : OkR k (ruleOf m) := ⟨h.rc, h.ua, h.len, h.big, h.fit⟩
theorem mods_Rule_at {m : TMod} (h : m.Acts.length * 32 ≤ 140737488355328) : mods_Rule m = some (ruleOf m) := by
  unfold mods_Rule slices_Clone_Act slices_Clip_Act
  rw [app_some (by rw [List.length_nil]; omega), List.nil_append]
  rfl
def inB (r : TRule) (m : TMod) : Bool := wC r.Match m.Match && (Sb r.Match && Sb m.Match)
def touchB (m : TMod) (r : TRule) : Bool :=
  if (m.Kind == 2) || (m.Kind == 3) then (r.Owner == m.Owner) && inB r m
  else if (m.Kind == 4) || (m.Kind == 5) then (r.Owner == m.Owner) && keyB r (ruleOf m)
  else false
theorem touches_at {k : Nat} (hk : 64 < k) {m : TMod} {r : TRule} (hm : OkM k m) (hr : OkR k r) : mods_touches k m r = some (touchB m r) := by
  unfold mods_touches touchB
  rw [cube_Within_at (by omega) hr.rc hm.rc, mods_Rule_at hm.fit]
  cases m.Kind == 2
  · cases m.Kind == 3
    · cases m.Kind == 4
      · cases m.Kind == 5
        · rfl
        · cases r.Owner == m.Owner <;> simp [rule_Key_at]
      · cases r.Owner == m.Owner <;> simp [rule_Key_at]
    · cases r.Owner == m.Owner <;> simp [inB, wC]
  · cases r.Owner == m.Owner <;> simp [inB, wC]
def chg (m : TMod) (r : TRule) : Option TRule := if touchB m r then (if (m.Kind == 3) || (m.Kind == 5) then none else some (TRule.setActs r m.Acts)) else some r
def applyL (m : TMod) (l : List TRule) : List TRule := l.filterMap (chg m)
theorem applyL_drop {m : TMod} {l : List TRule} {n : Nat} (h : n < l.length) : applyL m (l.drop n) = (chg m l[n]).toList ++ applyL m (l.drop (n + 1)) := by
  rw [List.drop_eq_getElem_cons h]
  unfold applyL
  rw [List.filterMap_cons]
  cases chg m l[n] <;> rfl
theorem Copy_l0 (k : Nat) {l : List TRule} (hl : ∀ r ∈ l, OkR k r) (hlen : l.length ≤ 1000) : ∀ (r n m : Nat) (out : List TRule), n + r = l.length → r < m → out.length ≤ n → rule_Copy.l0 k l m out (n : Int) = some (out ++ l.drop n)
  | r, n, 0, _, _, h, _ => by omega
  | 0, n, m + 1, out, hn, _, _ => by
    rw [rule_Copy.l0, if_neg (by simp only [decide_eq_true_eq]; omega), List.drop_eq_nil_of_le (by omega), List.append_nil]
  | r + 1, n, m + 1, out, hn, hm, ho => by
    have h : n < l.length := by omega
    rw [rule_Copy.l0, if_pos (by simp only [decide_eq_true_eq]; omega), idx_nat h, Option.bind_some, copied_at (hl _ (List.getElem_mem h)).fit, Option.bind_some, app_some (by rw [List.length_singleton]; omega), Option.bind_some, inc n (by omega),
      Copy_l0 k hl hlen r (n + 1) m _ (by omega) (by omega) (by rw [List.length_append, List.length_singleton]; omega), List.drop_eq_getElem_cons h, List.append_assoc]
    rfl
theorem rule_Copy_at {k : Nat} {l : List TRule} (hl : ∀ r ∈ l, OkR k r) (hlen : l.length ≤ 1000) (hk : l.length < k) : rule_Copy k l = some l := by
  unfold rule_Copy slices_Clip_Rule
  have h0 := Copy_l0 k hl hlen l.length 0 k [] (by omega) hk (by simp)
  rw [show ((0 : Nat) : Int) = 0 from rfl, List.drop_zero, List.nil_append] at h0
  rw [h0]; rfl
theorem modsApply_l0 (k : Nat) (hk : 64 < k) {l : List TRule} {m : TMod} (hm : OkM k m) (hl : ∀ r ∈ l, OkR k r) (hlen : l.length ≤ 1000) : ∀ (r n f : Nat) (out : List TRule), n + r = l.length → r < f → out.length ≤ n →
    mods_Apply.l0 k m l f out (n : Int) = some (out ++ applyL m (l.drop n))
  | r, n, 0, _, _, h, _ => by omega
  | 0, n, f + 1, out, hn, _, _ => by
    rw [mods_Apply.l0, if_neg (by simp only [decide_eq_true_eq]; omega), List.drop_eq_nil_of_le (by omega)]
    simp [applyL]
  | r + 1, n, f + 1, out, hn, hf, ho => by
    have h : n < l.length := by omega
    have hr := hl _ (List.getElem_mem h)
    rw [mods_Apply.l0, if_pos (by simp only [decide_eq_true_eq]; omega), idx_nat h, Option.bind_some, touches_at hk hm hr, Option.bind_some, inc n (by omega), applyL_drop h]
    unfold chg
    cases touchB m l[n]
    · simp only [Bool.false_eq_true, if_false]
      rw [app_some (by rw [List.length_singleton]; omega)]
      simp only [Option.bind_some]
      rw [modsApply_l0 k hk hm hl hlen r (n + 1) f _ (by omega) (by omega) (by rw [List.length_append, List.length_singleton]; omega), List.append_assoc]
      rfl
    · simp only [if_true]
      cases (m.Kind == 3) || (m.Kind == 5)
      · simp only [Bool.false_eq_true, if_false]
        unfold slices_Clone_Act slices_Clip_Act
        rw [app_some (by rw [List.length_nil]; have := hm.fit; omega), List.nil_append]
        simp only [Option.bind_some]
        rw [app_some (by rw [List.length_singleton]; omega)]
        simp only [Option.bind_some]
        rw [modsApply_l0 k hk hm hl hlen r (n + 1) f _ (by omega) (by omega) (by rw [List.length_append, List.length_singleton]; omega), List.append_assoc]
        rfl
      · simp only [if_true, Option.bind_some]
        rw [modsApply_l0 k hk hm hl hlen r (n + 1) f _ (by omega) (by omega) (by omega)]
        rfl
/-! ### The document's -/
def touchAt (l : List TRule) (m : TMod) (i : Nat) : Bool := match l[i]? with | some x => touchB m x | none => false
def tIdx (l : List TRule) (m : TMod) (n r : Nat) : List Int := ((List.range' n r).filter (touchAt l m)).map fun i : Nat => (i : Int)
theorem tIdx_ge {l : List TRule} {m : TMod} {n r : Nat} {a : Int} (h : a ∈ tIdx l m n r) : (n : Int) ≤ a := by
  unfold tIdx at h
  obtain ⟨i, hi, rfl⟩ := List.mem_map.1 h
  have := (List.mem_range'_1.1 (List.mem_filter.1 hi).1).1
  omega
theorem tIdx_len (l : List TRule) (m : TMod) (n r : Nat) : (tIdx l m n r).length ≤ r := by
  unfold tIdx
  rw [List.length_map]
  refine Nat.le_trans (List.length_filter_le _ _) ?_
  rw [List.length_range']; exact Nat.le_refl _
theorem tIdx_step {l : List TRule} {m : TMod} {n r : Nat} (h : n < l.length) : tIdx l m n (r + 1) = (if touchB m l[n] then [(n : Int)] else []) ++ tIdx l m (n + 1) r := by
  have e : touchAt l m n = touchB m l[n] := by unfold touchAt; rw [List.getElem?_eq_getElem h]
  unfold tIdx
  rw [List.range'_succ, List.filter_cons, e]
  cases touchB m l[n] <;> simp
theorem Touched_l0 (k : Nat) (hk : 64 < k) {l : List TRule} {m : TMod} (hm : OkM k m) (hmb : modB m = true) (hl : ∀ r ∈ l, OkR k r) (hlen : l.length ≤ 1000) : ∀ (r n f : Nat) (out : List Int), n + r = l.length → r < f → out.length ≤ n →
    ref04_Touched.l0 k l m f out (n : Int) = some (out ++ tIdx l m n r)
  | r, n, 0, _, _, h, _ => by omega
  | 0, n, f + 1, out, hn, _, ho => by
    rw [ref04_Touched.l0, if_neg (by simp only [decide_eq_true_eq]; omega)]
    simp [tIdx]
  | r + 1, n, f + 1, out, hn, hf, ho => by
    have h : n < l.length := by omega
    have hr := hl _ (List.getElem_mem h)
    have body : ((if (m.Kind == 2) = true then some (m.Kind == 2) else some (m.Kind == 3)).bind fun (x54 : Bool) =>
      ((if x54 = true then ((if (l[n].Owner == m.Owner) = true then ((ref01_Within k l[n].Match m.Match).bind fun x65 => some x65) else some false).bind fun (x62 : Bool) => some x62)
      else ((if (m.Kind == 4) = true then some (m.Kind == 4) else some (m.Kind == 5)).bind fun (x68 : Bool) =>
        ((if x68 = true then some (((l[n].Owner == m.Owner) && (cellsEq (TCube.enc l[n].Match) (TCube.enc m.Match))) && (l[n].Prio == m.Prio)) else some false).bind fun (x71 : Bool) => some x71))).bind fun (x57 : Bool) => some x57)) = some (touchB m l[n]) := by
      rw [ref01_Within_at (by omega), cellsEq_dec]
      unfold touchB
      cases m.Kind == 2
      · cases m.Kind == 3
        · cases m.Kind == 4
          · cases m.Kind == 5
            · rfl
            · cases l[n].Owner == m.Owner <;> (simp [keyB, ruleOf] <;> congr)
          · cases l[n].Owner == m.Owner <;> (simp [keyB, ruleOf] <;> congr)
        · cases l[n].Owner == m.Owner <;> simp [inB, wC]
      · cases l[n].Owner == m.Owner <;> simp [inB, wC]
    rw [ref04_Touched.l0, if_pos (by simp only [decide_eq_true_eq]; omega), idx_nat h, Option.bind_some, inc n (by omega), body, Option.bind_some, ref04_Mod_at hk hm, hmb, tIdx_step h]
    cases touchB m l[n]
    · simp only [Bool.false_eq_true, if_false, Option.bind_some, List.nil_append]
      exact Touched_l0 k hk hm hmb hl hlen r (n + 1) f out (by omega) (by omega) (by omega)
    · simp only [if_true, Option.bind_some]
      rw [app_some (by rw [List.length_singleton]; omega)]
      simp only [Option.bind_some]
      rw [Touched_l0 k hk hm hmb hl hlen r (n + 1) f _ (by omega) (by omega) (by rw [List.length_append, List.length_singleton]; omega), List.append_assoc]
theorem refApply_l1 (k : Nat) {l : List TRule} {m : TMod} (hlen : l.length ≤ 1000) : ∀ (r n f : Nat) (out : List TRule), n + r = l.length → r < f → out.length ≤ n →
    ref04_Apply.l1 k l m f out (tIdx l m n r) (n : Int) = some (out ++ applyL m (l.drop n))
  | r, n, 0, _, _, h, _ => by omega
  | 0, n, f + 1, out, hn, _, _ => by
    rw [ref04_Apply.l1, if_neg (by simp only [decide_eq_true_eq]; omega), List.drop_eq_nil_of_le (by omega)]
    simp [applyL]
  | r + 1, n, f + 1, out, hn, hf, ho => by
    have h : n < l.length := by omega
    have hlt := tIdx_len l m (n + 1) r
    rw [ref04_Apply.l1, if_pos (by simp only [decide_eq_true_eq]; omega), idx_nat h, Option.bind_some, inc n (by omega), tIdx_step h, applyL_drop h]
    unfold chg
    cases touchB m l[n]
    · simp only [Bool.false_eq_true, if_false, List.nil_append]
      have hcond : (if decide (0 < ((tIdx l m (n + 1) r).length : Int)) = true then (idx (tIdx l m (n + 1) r) 0).bind fun x190 => some (x190 == (n : Int)) else some false) = some false := by
        cases ht : tIdx l m (n + 1) r with
        | nil => rfl
        | cons a t =>
          have ha := tIdx_ge (l := l) (m := m) (n := n + 1) (r := r) (a := a) (by rw [ht]; simp)
          have hne : ¬ a = (n : Int) := by omega
          rw [if_pos (by simp only [decide_eq_true_eq, List.length_cons]; omega), show idx (a :: t) 0 = some a from rfl, Option.bind_some]
          simp [hne]
      rw [hcond, Option.bind_some, if_neg (by simp), app_some (by rw [List.length_singleton]; omega)]
      simp only [Option.bind_some]
      rw [refApply_l1 k hlen r (n + 1) f _ (by omega) (by omega) (by rw [List.length_append, List.length_singleton]; omega), List.append_assoc]
      rfl
    · simp only [if_true, List.singleton_append]
      rw [if_pos (by simp only [decide_eq_true_eq, List.length_cons]; omega), show idx ((n : Int) :: tIdx l m (n + 1) r) 0 = some (n : Int) from rfl, Option.bind_some, Option.bind_some, beq_self_eq_true, if_pos rfl,
        if_pos ⟨by decide, by rw [List.length_cons]; omega, Int.le_refl _⟩, List.take_length, show List.drop (1 : Int).toNat ((n : Int) :: tIdx l m (n + 1) r) = tIdx l m (n + 1) r from rfl]
      cases (m.Kind == 3) || (m.Kind == 5)
      · simp only [Bool.false_eq_true, if_false]
        rw [app_some (by rw [List.length_singleton]; omega)]
        simp only [Option.bind_some]
        rw [refApply_l1 k hlen r (n + 1) f _ (by omega) (by omega) (by rw [List.length_append, List.length_singleton]; omega), List.append_assoc]
        rfl
      · simp only [if_true, Option.bind_some]
        rw [refApply_l1 k hlen r (n + 1) f _ (by omega) (by omega) (by omega)]
        rfl
def overB (a b : TRule) : Bool := (a.Prio == b.Prio) && meets a.Match b.Match
def otherB (m : TMod) (x : TRule) : Bool := keyB x (ruleOf m) && (x.Owner != m.Owner)
def meetB (m : TMod) (x : TRule) : Bool := !keyB x (ruleOf m) && overB x (ruleOf m)
theorem meetC_snd (c d : TCube) : (meetC c d).2 = meets c d := by
  unfold meetC
  cases meets c d <;> rfl
theorem refApply_l0 (k : Nat) (hk : 300 < k) {l : List TRule} {m : TMod} (hm : OkM k m) (hl : ∀ r ∈ l, OkR k r) (hlen : l.length ≤ 1000) : ∀ (r n f : Nat) (b c : Bool), n + r = l.length → r < f →
    ref04_Apply.l0 k l m f b c (n : Int) = some (bif (l.drop n).any (otherB m) then .ret ([], 7) else .brk (b || (l.drop n).any fun x => keyB x (ruleOf m), c || (l.drop n).any (meetB m)))
  | r, n, 0, _, _, _, h => by omega
  | 0, n, f + 1, b, c, hn, _ => by
    rw [ref04_Apply.l0, if_neg (by simp only [decide_eq_true_eq]; omega), List.drop_eq_nil_of_le (by omega)]
    simp
  | r + 1, n, f + 1, b, c, hn, hf => by
    have h : n < l.length := by omega
    have ih := fun b c => refApply_l0 k hk hm hl hlen r (n + 1) f b c (by omega) (by omega)
    have e0 : ref04_Overlap k l[n] (ruleOf m) = some (overB l[n] (ruleOf m)) := by
      unfold ref04_Overlap overB
      show ((ref01_Meet k l[n].Match m.Match).bind _) = _
      rw [ref01_Meet_eq hk (hl _ (List.getElem_mem h)).rc hm.rc, Option.bind_some, meetC_snd]
      rfl
    rw [ref04_Apply.l0, if_pos (by simp only [decide_eq_true_eq]; omega), idx_nat h, Option.bind_some, inc n (by omega)]
    show (((ref04_Key l[n] (ruleOf m)).bind fun x107 => _).bind _) = _
    rw [ref04_Key_at, Option.bind_some]
    show ((((if keyB l[n] (ruleOf m) = true then _ else ((if c = true then some true else ((ref04_Overlap k l[n] (ruleOf m)).bind fun x133 => some x133)).bind _)) : Option (Lo (List TRule × Int) (Bool × Bool))).bind _).bind _) = _
    rw [e0, List.drop_eq_getElem_cons h, List.any_cons, List.any_cons, List.any_cons]
    have e1 : otherB m l[n] = (keyB l[n] (ruleOf m) && (l[n].Owner != m.Owner)) := rfl
    have e2 : meetB m l[n] = (!keyB l[n] (ruleOf m) && overB l[n] (ruleOf m)) := rfl
    rw [e1, e2]
    cases keyB l[n] (ruleOf m)
    · cases c
      · simp only [Bool.false_eq_true, if_false, Option.bind_some, Bool.false_and, Bool.false_or, Bool.not_false, Bool.true_and]
        exact ih _ _
      · simp only [Bool.false_eq_true, if_false, if_true, Option.bind_some, Bool.false_and, Bool.false_or, Bool.true_or]
        rw [ih]; simp
    · cases ho : l[n].Owner != m.Owner
      · simp only [if_true, Bool.false_eq_true, if_false, Option.bind_some, Bool.and_false, Bool.false_or, Bool.not_true, Bool.false_and, Bool.true_or, Bool.or_true]
        rw [ih]; simp
      · simp
/-! ### What a change makes of a table -/
def applyC (l : List TRule) (m : TMod) (room : Int) : List TRule × Int :=
  if !(tabB l && modB m) then ([], 2)
  else if m.Kind == 1 then
    (if l.any (otherB m) then ([], 7)
    else if m.Check && l.any (meetB m) then ([], 6)
    else if !(l.any fun x => keyB x (ruleOf m)) && decide (room ≤ (l.length : Int)) then ([], 3)
    else (sortF (l ++ [ruleOf m]) [], 0))
  else (applyL m l, 0)
theorem ref04_Apply_at {k : Nat} (hk : 2000 < k) {l : List TRule} {m : TMod} {room : Int} (hm : OkM k m) (hl : ∀ r ∈ l, OkR k r) (hlen : l.length ≤ 1000) : ref04_Apply k l m room = some (applyC l m room) := by
  unfold ref04_Apply applyC
  rw [ref04_Table_at (by omega) hl (by omega) (by omega), Option.bind_some, ref04_Mod_at (by omega) hm]
  cases tabB l
  · rfl
  · cases hmb : modB m
    · rfl
    · simp only [Bool.not_true, Bool.false_eq_true, if_false, Option.bind_some, Bool.and_self]
      cases m.Kind == 1
      · simp only [Bool.false_eq_true, if_false]
        have h0 := Touched_l0 k (by omega) hm hmb hl hlen l.length 0 k [] (by omega) (by omega) (by simp)
        have h1 := refApply_l1 k (m := m) hlen l.length 0 k [] (by omega) (by omega) (by simp)
        rw [show ((0 : Nat) : Int) = 0 from rfl, List.nil_append] at h0
        rw [show ((0 : Nat) : Int) = 0 from rfl, List.drop_zero, List.nil_append] at h1
        unfold ref04_Touched
        rw [h0]
        simp only [Option.bind_some]
        rw [h1]; rfl
      · simp only [if_true]
        have h0 := refApply_l0 k (by omega) hm hl hlen l.length 0 k false false (by omega) (by omega)
        rw [show ((0 : Nat) : Int) = 0 from rfl, List.drop_zero] at h0
        rw [h0, Option.bind_some]
        cases l.any (otherB m)
        · simp only [cond_false, Bool.false_or, Bool.false_eq_true, if_false]
          cases m.Check && l.any (meetB m)
          · simp only [Bool.false_eq_true, if_false]
            cases (!(l.any fun x => keyB x (ruleOf m))) && decide (room ≤ (l.length : Int))
            · simp only [Bool.false_eq_true, if_false]
              have hall : ∀ x ∈ l ++ [ruleOf m], OkR k x := fun x hx => by
                rcases List.mem_append.1 hx with hx | hx
                · exact hl x hx
                · rw [List.mem_singleton] at hx; subst hx; exact ruleOf_ok hm
              rw [app_some (by rw [List.length_nil]; omega), Option.bind_some, List.nil_append]
              show ((((app 272 l [ruleOf m]).bind _)).bind _) = _
              rw [app_some (by rw [List.length_singleton]; omega), Option.bind_some, ref04_Sort_at hk hall (by rw [List.length_append, List.length_singleton]; omega)]
              rfl
            · rfl
          · rfl
        · rfl
end Go.Proofs.YtgfnkigoaajllaaGreat
