/- The plain law of RegionHolds. -/
import Derived.Test.YtangebngeeamoaaQ4
set_option linter.unusedVariables false
set_option linter.unusedSimpArgs false
set_option maxRecDepth 100000
namespace Go.Proofs.Ytangebngeeamoaa
open Go.RowKit Go.Pod

/-- A rule within a change's match. -/
def near (x : TRule) (m : TMod) : Prop := wC x.Match m.Match = true ∧ Sb x.Match = true ∧ Sb m.Match = true
theorem near_eq {x : TRule} {m : TMod} (hm : RC m.Match) (h : x.Match = m.Match) (hs : Sb m.Match = true) : near x m := ⟨by rw [h]; exact wC_refl hm, by rw [h]; exact hs, hs⟩
structure OkM (k : Nat) (m : TMod) : Prop where
  rc : RC m.Match
  len : m.Acts.length < k
  big : m.Acts.length < 2 ^ 63
theorem Touched_l0 (k : Nat) (hk : 64 < k) {l : List TRule} {m : TMod} (hm : OkM k m) (hl : ∀ r ∈ l, OkR k r) (hlen : l.length ≤ 1000) : ∀ (r n f : Nat) (out : List Int), n + r = l.length → r < f → out.length ≤ n →
    (∀ t ∈ out, ∃ (j : Nat) (x : TRule), (j : Int) = t ∧ l[j]? = some x ∧ near x m) →
    ∃ o, ref04_Touched.l0 k l m f out (n : Int) = some o ∧ o.length ≤ l.length ∧ ∀ t ∈ o, ∃ (j : Nat) (x : TRule), (j : Int) = t ∧ l[j]? = some x ∧ near x m
  | r, n, 0, _, _, h, _, _ => by omega
  | 0, n, f + 1, out, hn, _, ho, h1 => by
    refine ⟨out, ?_, by omega, h1⟩
    rw [ref04_Touched.l0, if_neg (by simp only [decide_eq_true_eq]; omega)]
  | r + 1, n, f + 1, out, hn, hf, ho, h1 => by
    have h : n < l.length := by omega
    obtain ⟨b, hb1, hb2⟩ := Mod_some hk hm.rc hm.len hm.big
    have skip := Touched_l0 k hk hm hl hlen r (n + 1) f out (by omega) (by omega) (by omega) h1
    have put : (b = true → near l[n] m) → ∃ o, (((if b = true then (app 8 out [(n : Int)]).bind fun x52 => some x52 else some out).bind fun (x42 : List Int) => some x42).bind fun (x17 : List Int) => ref04_Touched.l0 k l m f x17 ((n + 1 : Nat) : Int)) = some o ∧ o.length ≤ l.length ∧ ∀ t ∈ o, ∃ (j : Nat) (x : TRule), (j : Int) = t ∧ l[j]? = some x ∧ near x m := fun hnear => by
      cases b
      · simpa using skip
      · simp only [if_true]
        rw [app_some (by rw [List.length_singleton]; omega)]
        simp only [Option.bind_some]
        refine Touched_l0 k hk hm hl hlen r (n + 1) f _ (by omega) (by omega) (by rw [List.length_append, List.length_singleton]; omega) fun t ht => ?_
        rcases List.mem_append.1 ht with ht | ht
        · exact h1 t ht
        · rw [List.mem_singleton] at ht
          exact ⟨n, l[n], ht.symm, List.getElem?_eq_getElem h, hnear rfl⟩
    have skip' : ∃ o, (((some false).bind fun (x36 : Bool) => ((if x36 = true then (app 8 out [(n : Int)]).bind fun x52 => some x52 else some out).bind fun (x42 : List Int) => some x42)).bind fun (x17 : List Int) => ref04_Touched.l0 k l m f x17 ((n + 1 : Nat) : Int)) = some o ∧ o.length ≤ l.length ∧ ∀ t ∈ o, ∃ (j : Nat) (x : TRule), (j : Int) = t ∧ l[j]? = some x ∧ near x m := by simpa using skip
    rw [ref04_Touched.l0, if_pos (by simp only [decide_eq_true_eq]; omega), idx_nat h, Option.bind_some, inc n (by omega), ref01_Within_at (show 12 < k by omega), hb1, cellsEq_dec]
    have hx : ∀ c : Bool, (c = true → b = true → near l[n] m) → ∃ o, (((if c = true then (some b).bind fun x39 => some x39 else some false).bind fun (x36 : Bool) => ((if x36 = true then (app 8 out [(n : Int)]).bind fun x52 => some x52 else some out).bind fun (x42 : List Int) => some x42)).bind fun (x17 : List Int) => ref04_Touched.l0 k l m f x17 ((n + 1 : Nat) : Int)) = some o ∧ o.length ≤ l.length ∧ ∀ t ∈ o, ∃ (j : Nat) (x : TRule), (j : Int) = t ∧ l[j]? = some x ∧ near x m := fun c hc => by
      cases c
      · simpa using skip
      · exact put (hc rfl)
    cases e2 : (m.Kind == 2)
    · cases e3 : (m.Kind == 3)
      · cases e4 : (m.Kind == 4)
        · cases e5 : (m.Kind == 5)
          · simp only [Bool.false_eq_true, if_false, Option.bind_some]
            exact skip
          · simp only [Bool.false_eq_true, if_false, if_true, Option.bind_some]
            refine hx _ fun hc hb => near_eq hm.rc ?_ (hb2 hb)
            simp only [Bool.and_eq_true, decide_eq_true_eq] at hc
            exact hc.1.2
        · simp only [Bool.false_eq_true, if_false, if_true, Option.bind_some]
          refine hx _ fun hc hb => near_eq hm.rc ?_ (hb2 hb)
          simp only [Bool.and_eq_true, decide_eq_true_eq] at hc
          exact hc.1.2
      · simp only [Bool.false_eq_true, if_false, if_true, Option.bind_some]
        cases l[n].Owner == m.Owner
        · simp only [Bool.false_eq_true, if_false, Option.bind_some]
          exact skip
        · simp only [if_true, Option.bind_some]
          refine hx _ fun hc hb => ?_
          rw [Bool.and_eq_true_iff, Bool.and_eq_true_iff] at hc
          exact ⟨hc.1, hc.2.1, hc.2.2⟩
    · simp only [if_true, Option.bind_some]
      cases l[n].Owner == m.Owner
      · simp only [Bool.false_eq_true, if_false, Option.bind_some]
        exact skip
      · simp only [if_true, Option.bind_some]
        refine hx _ fun hc hb => ?_
        rw [Bool.and_eq_true_iff, Bool.and_eq_true_iff] at hc
        exact ⟨hc.1, hc.2.1, hc.2.2⟩
/-- What is laid stays near what it was. -/
structure Laid (k : Nat) (l : List TRule) (m : TMod) (n : Nat) (out : List TRule) : Prop where
  len : out.length ≤ n
  ok : ∀ x ∈ out, OkR k x
  src : ∀ x ∈ out, x ∈ l ∨ near x m
  kept : ∀ y ∈ l.take n, y ∈ out ∨ near y m
theorem Apply_l1 (k : Nat) {l : List TRule} {m : TMod} (hm : OkM k m) (hl : ∀ r ∈ l, OkR k r) (hlen : l.length ≤ 1000) : ∀ (r n f : Nat) (out : List TRule) (t : List Int), n + r = l.length → r < f → Laid k l m n out → t.length ≤ 1000 →
    (∀ a ∈ t, ∃ (j : Nat) (x : TRule), (j : Int) = a ∧ l[j]? = some x ∧ near x m) → ∃ o, ref04_Apply.l1 k l m f out t (n : Int) = some o ∧ Laid k l m l.length o
  | r, n, 0, _, _, _, h, _, _, _ => by omega
  | 0, n, f + 1, out, t, hn, _, hL, _, _ => by
    refine ⟨out, ?_, by rw [show l.length = n by omega]; exact hL⟩
    rw [ref04_Apply.l1, if_neg (by simp only [decide_eq_true_eq]; omega)]
  | r + 1, n, f + 1, out, t, hn, hf, hL, htl, ht => by
    have h : n < l.length := by omega
    have hg : l[n]? = some l[n] := List.getElem?_eq_getElem h
    have e : l.take (n + 1) = l.take n ++ [l[n]] := by rw [List.take_add_one, hg]; rfl
    have hln : l[n] ∈ l := List.getElem_mem h
    have hno := hL.len
    have keep : Laid k l m (n + 1) (out ++ [l[n]]) := by
      refine ⟨by rw [List.length_append, List.length_singleton]; omega, fun x hx => ?_, fun x hx => ?_, fun y hy => ?_⟩
      · rcases List.mem_append.1 hx with hx | hx
        · exact hL.ok x hx
        · rw [List.mem_singleton] at hx; subst hx; exact hl _ hln
      · rcases List.mem_append.1 hx with hx | hx
        · exact hL.src x hx
        · rw [List.mem_singleton] at hx; subst hx; exact .inl hln
      · rw [e] at hy
        rcases List.mem_append.1 hy with hy | hy
        · rcases hL.kept y hy with h1 | h1
          · exact .inl (List.mem_append_left _ h1)
          · exact .inr h1
        · exact .inl (List.mem_append_right _ hy)
    have hkeep : ∃ o, (((app 272 out [l[n]]).bind fun x213 => some (x213, t)).bind fun (o : List TRule × List Int) => match o with | (x168, x171) => ref04_Apply.l1 k l m f x168 x171 ((n + 1 : Nat) : Int)) = some o ∧ Laid k l m l.length o := by
      rw [app_some (by rw [List.length_singleton]; omega)]
      simp only [Option.bind_some]
      exact Apply_l1 k hm hl hlen r (n + 1) f _ t (by omega) (by omega) keep htl ht
    rw [ref04_Apply.l1, if_pos (by simp only [decide_eq_true_eq]; omega), idx_nat h, Option.bind_some, inc n (by omega)]
    cases t with
    | nil => simpa using hkeep
    | cons a t =>
      have e0 : idx (a :: t) 0 = some a := rfl
      rw [if_pos (by simp only [decide_eq_true_eq, List.length_cons]; omega), e0, Option.bind_some, Option.bind_some]
      by_cases ha : a = (n : Int)
      · have hnear : near l[n] m := by
          obtain ⟨j, x, h1, h2, h3⟩ := ht a (by simp)
          have : j = n := by omega
          subst this
          rw [hg] at h2
          cases h2
          exact h3
        have ht' : ∀ b ∈ t, ∃ (j : Nat) (x : TRule), (j : Int) = b ∧ l[j]? = some x ∧ near x m := fun b hb => ht b (by simp [hb])
        have htl' : t.length ≤ 1000 := by simp at htl; omega
        rw [if_pos (by simpa using ha), if_pos ⟨by decide, by rw [List.length_cons]; omega, Int.le_refl _⟩, List.take_length]
        show ∃ o, ((if ((m.Kind == 3) || (m.Kind == 5)) = true then some (out, t) else (app 272 out [(TRule.setActs l[n] m.Acts)]).bind fun x207 => some (x207, t)).bind fun (o : List TRule × List Int) => match o with | (x168, x171) => ref04_Apply.l1 k l m f x168 x171 ((n + 1 : Nat) : Int)) = some o ∧ Laid k l m l.length o
        cases (m.Kind == 3) || (m.Kind == 5)
        · simp only [Bool.false_eq_true, if_false]
          rw [app_some (by rw [List.length_singleton]; omega)]
          simp only [Option.bind_some]
          refine Apply_l1 k hm hl hlen r (n + 1) f _ t (by omega) (by omega) ⟨by rw [List.length_append, List.length_singleton]; omega, fun x hx => ?_, fun x hx => ?_, fun y hy => ?_⟩ htl' ht'
          · rcases List.mem_append.1 hx with hx | hx
            · exact hL.ok x hx
            · rw [List.mem_singleton] at hx; subst hx; exact ⟨(hl _ hln).rc, hm.len, hm.big⟩
          · rcases List.mem_append.1 hx with hx | hx
            · exact hL.src x hx
            · rw [List.mem_singleton] at hx; subst hx; exact .inr hnear
          · rw [e] at hy
            rcases List.mem_append.1 hy with hy | hy
            · rcases hL.kept y hy with h1 | h1
              · exact .inl (List.mem_append_left _ h1)
              · exact .inr h1
            · rw [List.mem_singleton] at hy; subst hy; exact .inr hnear
        · simp only [if_true, Option.bind_some]
          refine Apply_l1 k hm hl hlen r (n + 1) f out t (by omega) (by omega) ⟨by omega, hL.ok, hL.src, fun y hy => ?_⟩ htl' ht'
          rw [e] at hy
          rcases List.mem_append.1 hy with hy | hy
          · exact hL.kept y hy
          · rw [List.mem_singleton] at hy; subst hy; exact .inr hnear
      · rw [if_neg (by simpa using ha)]
        exact hkeep
theorem Apply_l0 (k : Nat) (hk : 300 < k) {l : List TRule} {m : TMod} (hm : OkM k m) (hl : ∀ r ∈ l, OkR k r) (hlen : l.length ≤ 1000) : ∀ (r n f : Nat) (b c : Bool), n + r = l.length → r < f →
    ∃ o, ref04_Apply.l0 k l m f b c (n : Int) = some o ∧ (∀ v, o = .ret v → v.2 ≠ 0)
  | r, n, 0, _, _, _, h => by omega
  | 0, n, f + 1, b, c, hn, _ => by
    rw [ref04_Apply.l0, if_neg (by simp only [decide_eq_true_eq]; omega)]
    exact ⟨_, rfl, fun v h => by cases h⟩
  | r + 1, n, f + 1, b, c, hn, hf => by
    have h : n < l.length := by omega
    have ih := fun b c => Apply_l0 k hk hm hl hlen r (n + 1) f b c (by omega) (by omega)
    rw [ref04_Apply.l0, if_pos (by simp only [decide_eq_true_eq]; omega), idx_nat h, Option.bind_some, Key_at, Option.bind_some, inc n (by omega)]
    cases keyB l[n] ({ Match := m.Match, Prio := m.Prio, Acts := m.Acts, Idle := m.Idle, Hard := m.Hard, Owner := m.Owner, Hits := 0, Quiet := 0, Age := 0 } : TRule)
    · simp only [Bool.false_eq_true, if_false]
      cases c
      · unfold ref04_Overlap
        rw [ref01_Meet_eq hk (hl _ (List.getElem_mem h)).rc hm.rc]
        simp only [Bool.false_eq_true, if_false, Option.bind_some]
        exact ih _ _
      · simp only [if_true, Option.bind_some]
        exact ih _ _
    · simp only [if_true]
      cases l[n].Owner != m.Owner
      · simp only [Bool.false_eq_true, if_false, Option.bind_some]
        exact ih _ _
      · simp only [if_true, Option.bind_some]
        exact ⟨_, rfl, fun v h => by cases h; decide⟩
/-- What Apply comes to: refused, or every rule that is changed is within the change's match. -/
theorem Apply_some {k : Nat} (hk : 2000 < k) {l : List TRule} {m : TMod} (hm : OkM k m) (hl : ∀ r ∈ l, OkR k r) (hlen : l.length ≤ 1000) :
    ∃ p, ref04_Apply k l m 1000 = some p ∧ (p.2 = 0 → p.1.length ≤ 1001 ∧ (∀ x ∈ p.1, OkR k x) ∧ (∀ x ∈ p.1, x ∈ l ∨ near x m) ∧ (∀ y ∈ l, y ∈ p.1 ∨ near y m)) := by
  obtain ⟨t, ht1, ht2⟩ := Table_some (show 64 < k by omega) hl (by omega) (by omega)
  obtain ⟨b, hb1, hb2⟩ := Mod_some (show 64 < k by omega) hm.rc hm.len hm.big
  unfold ref04_Apply
  rw [ht1, Option.bind_some, hb1]
  cases t
  · exact ⟨_, rfl, fun h => by cases h⟩
  · cases b
    · exact ⟨_, rfl, fun h => by cases h⟩
    · simp only [Bool.not_true, Bool.false_eq_true, if_false, Option.bind_some]
      have hsm := hb2 rfl
      have htab := ht2 rfl
      cases m.Kind == 1
      · simp only [Bool.false_eq_true, if_false]
        obtain ⟨a, ha1, ha2, ha3⟩ := Touched_l0 k (by omega) hm hl hlen l.length 0 k [] (by omega) (by omega) (by simp) (by simp)
        obtain ⟨o, ho1, ho2⟩ := Apply_l1 k hm hl hlen l.length 0 k [] a (by omega) (by omega) ⟨by simp, by simp, by simp, by simp⟩ (by omega) ha3
        rw [show ((0 : Nat) : Int) = 0 from rfl] at ha1 ho1
        unfold ref04_Touched
        rw [ha1]
        simp only [Option.bind_some]
        rw [ho1]
        refine ⟨_, rfl, fun _ => ⟨by have := ho2.len; simp only; omega, ho2.ok, ho2.src, fun y hy => ho2.kept y (by rw [List.take_length]; exact hy)⟩⟩
      · simp only [if_true]
        obtain ⟨o, ho1, ho2⟩ := Apply_l0 k (by omega) hm hl hlen l.length 0 k false false (by omega) (by omega)
        rw [show ((0 : Nat) : Int) = 0 from rfl] at ho1
        rw [ho1, Option.bind_some]
        cases o with
        | ret v => exact ⟨v, rfl, fun h => absurd h (ho2 v rfl)⟩
        | brk u =>
          obtain ⟨there, mt⟩ := u
          simp only
          cases m.Check && mt
          · simp only [Bool.false_eq_true, if_false]
            cases !there && decide ((1000 : Int) ≤ (l.length : Int))
            · simp only [Bool.false_eq_true, if_false]
              generalize hr : ({ Match := m.Match, Prio := m.Prio, Acts := m.Acts, Idle := m.Idle, Hard := m.Hard, Owner := m.Owner, Hits := 0, Quiet := 0, Age := 0 } : TRule) = r
              have hrm : r.Match = m.Match := by rw [← hr]
              have hrk : OkR k r := by rw [← hr]; exact ⟨hm.rc, hm.len, hm.big⟩
              have hall : ∀ x ∈ l ++ [r], OkR k x := fun x hx => by
                rcases List.mem_append.1 hx with hx | hx
                · exact hl x hx
                · rw [List.mem_singleton] at hx; subst hx; exact hrk
              obtain ⟨s, hs1, hs2, hs3, hs4⟩ := Sort_some (show 2000 < k by omega) hall (by rw [List.length_append, List.length_singleton]; omega)
              rw [app_some (by rw [List.length_nil]; omega), Option.bind_some, List.nil_append, app_some (by rw [List.length_singleton]; omega), Option.bind_some, hs1]
              refine ⟨_, rfl, fun _ => ⟨?_, fun x hx => hall x (hs3 x hx), fun x hx => ?_, fun y hy => ?_⟩⟩
              · rw [List.length_append, List.length_singleton] at hs2; simp only; omega
              · rcases List.mem_append.1 (hs3 x hx) with h1 | h1
                · exact .inl h1
                · rw [List.mem_singleton] at h1; subst h1; exact .inr (near_eq hm.rc hrm hsm)
              · obtain ⟨i, hi⟩ := List.mem_iff_getElem?.1 hy
                have hil := (List.getElem?_eq_some_iff.1 hi).1
                rcases hs4 i y (by rw [List.getElem?_append_left hil]; exact hi) (htab.1 y hy) with h1 | ⟨j, z, hj, hz, hkz⟩
                · exact .inl h1
                · rcases Nat.lt_or_ge j l.length with h2 | h2
                  · exfalso
                    rw [List.getElem?_append_left h2] at hz
                    have hp := List.pairwise_iff_getElem.1 htab.2 i j hil h2 hj
                    have e1 : l[i] = y := (List.getElem?_eq_some_iff.1 hi).2
                    have e2 : l[j] = z := (List.getElem?_eq_some_iff.1 hz).2
                    rw [e1, e2] at hp
                    rw [beB_key hp] at hkz; cases hkz
                  · rw [List.getElem?_append_right h2] at hz
                    have : z = r := by
                      have h3 := (List.getElem?_eq_some_iff.1 hz).1
                      rw [List.length_singleton] at h3
                      rw [show j - l.length = 0 by omega] at hz
                      simpa using hz.symm
                    subst this
                    exact .inr (near_eq hm.rc ((keyB_match hkz).trans hrm) hsm)
            · exact ⟨_, rfl, fun h => by cases h⟩
          · exact ⟨_, rfl, fun h => by cases h⟩
theorem Equal_some {k : Nat} {x y : TRule} (hx : OkR k x) : ∃ e, ref04_Equal k x y = some e ∧ (x = y → e = true) := by
  obtain ⟨s, hs1, hs2⟩ := SameActs_some (k := k) (a := x.Acts) (b := y.Acts) hx.len hx.big
  unfold ref04_Equal
  rw [Key_at, Option.bind_some, hs1]
  cases hk : keyB x y
  · refine ⟨_, rfl, fun e => ?_⟩
    subst e
    unfold keyB at hk
    simp at hk
  · refine ⟨_, rfl, fun e => ?_⟩
    subst e
    simp [hs2 rfl]
theorem Alone_l1 (k : Nat) {a b : List TRule} (ha : ∀ r ∈ a, OkR k r) {i : Nat} (hi : i < a.length) (hb : b.length < 2 ^ 60) : ∀ (r n f : Nat) (v : Bool), n + r = b.length → r < f →
    ∃ o, ref04_Alone.l1 k a b (i : Int) f v (n : Int) = some o ∧ ((v = true ∨ a[i] ∈ b.drop n) → o = true)
  | r, n, 0, _, _, h => by omega
  | 0, n, f + 1, v, hn, _ => by
    rw [ref04_Alone.l1, if_neg (by simp only [decide_eq_true_eq]; omega)]
    refine ⟨v, rfl, fun h => ?_⟩
    rcases h with h | h
    · exact h
    · rw [List.drop_eq_nil_of_le (by omega)] at h; cases h
  | r + 1, n, f + 1, v, hn, hf => by
    have h : n < b.length := by omega
    have ih := fun v => Alone_l1 k ha hi hb r (n + 1) f v (by omega) (by omega)
    rw [ref04_Alone.l1, if_pos (by simp only [decide_eq_true_eq]; omega), inc n (by omega), List.drop_eq_getElem_cons h]
    cases v
    · obtain ⟨e, he1, he2⟩ := Equal_some (y := b[n]) (ha _ (List.getElem_mem hi))
      simp only [Bool.false_eq_true, if_false, idx_nat hi, idx_nat h, Option.bind_some, he1]
      obtain ⟨o, ho1, ho2⟩ := ih e
      refine ⟨o, ho1, fun hh => ?_⟩
      rcases hh with hh | hh
      · cases hh
      · rcases List.mem_cons.1 hh with hh | hh
        · exact ho2 (.inl (he2 hh))
        · exact ho2 (.inr hh)
    · simp only [if_true, Option.bind_some]
      obtain ⟨o, ho1, ho2⟩ := ih true
      exact ⟨o, ho1, fun _ => ho2 (.inl rfl)⟩
theorem Alone_l0 (k : Nat) {a b : List TRule} (ha : ∀ r ∈ a, OkR k r) (hal : a.length ≤ 2000) (hbk : b.length < k) (hb : b.length < 2 ^ 60) : ∀ (r n f : Nat) (out : List TRule), n + r = a.length → r < f → out.length ≤ n → (∀ x ∈ out, x ∈ a ∧ x ∉ b) →
    ∃ o, ref04_Alone.l0 k a b f out (n : Int) = some o ∧ o.length ≤ a.length ∧ (∀ x ∈ o, x ∈ a ∧ x ∉ b)
  | r, n, 0, _, _, h, _, _ => by omega
  | 0, n, f + 1, out, hn, _, ho, h1 => by
    rw [ref04_Alone.l0, if_neg (by simp only [decide_eq_true_eq]; omega)]
    exact ⟨out, rfl, by omega, h1⟩
  | r + 1, n, f + 1, out, hn, hf, ho, h1 => by
    have h : n < a.length := by omega
    obtain ⟨v, hv1, hv2⟩ := Alone_l1 k ha h hb b.length 0 k false (by omega) hbk
    rw [show ((0 : Nat) : Int) = 0 from rfl, List.drop_zero] at *
    rw [ref04_Alone.l0, if_pos (by simp only [decide_eq_true_eq]; omega), hv1, Option.bind_some, inc n (by omega)]
    cases v
    · simp only [Bool.not_false, if_true, idx_nat h, Option.bind_some]
      rw [app_some (by rw [List.length_singleton]; omega)]
      simp only [Option.bind_some]
      refine Alone_l0 k ha hal hbk hb r (n + 1) f _ (by omega) (by omega) (by rw [List.length_append, List.length_singleton]; omega) fun x hx => ?_
      rcases List.mem_append.1 hx with hx | hx
      · exact h1 x hx
      · rw [List.mem_singleton] at hx
        subst hx
        exact ⟨List.getElem_mem h, fun hin => by cases hv2 (.inr hin)⟩
    · simp only [Bool.not_true, Bool.false_eq_true, if_false, Option.bind_some]
      exact Alone_l0 k ha hal hbk hb r (n + 1) f out (by omega) (by omega) (by omega) h1
theorem Alone_some {k : Nat} {a b : List TRule} (ha : ∀ r ∈ a, OkR k r) (hal : a.length ≤ 2000) (hak : a.length < k) (hbk : b.length < k) (hb : b.length < 2 ^ 60) :
    ∃ o, ref04_Alone k a b = some o ∧ o.length ≤ a.length ∧ (∀ x ∈ o, x ∈ a ∧ x ∉ b) := by
  unfold ref04_Alone
  obtain ⟨o, h1, h2⟩ := Alone_l0 k ha hal hbk hb a.length 0 k [] (by omega) hak (by simp) (by simp)
  rw [show ((0 : Nat) : Int) = 0 from rfl] at h1
  rw [h1, Option.bind_some]
  exact ⟨o, rfl, h2⟩
/-! ### The law -/
theorem Holds_l2 (k : Nat) (hk : 12 < k) {rg : List TRegion} {c : TChange} {tu : List TRule} {i : Nat} (hi : i < tu.length) (hrg : rg.length < 2 ^ 60) : ∀ (r n f : Nat) (v : Bool), n + r = rg.length → r < f →
    law19_RegionHolds.l2 k rg c tu (i : Int) f v (n : Int) = some (v || (rg.drop n).any fun R => (R.Unit == c.Unit) && (wC tu[i].Match R.Cube && (Sb tu[i].Match && Sb R.Cube)))
  | r, n, 0, _, _, h => by omega
  | 0, n, f + 1, v, hn, _ => by
    rw [law19_RegionHolds.l2, if_neg (by simp only [decide_eq_true_eq]; omega), List.drop_eq_nil_of_le (by omega)]
    simp
  | r + 1, n, f + 1, v, hn, hf => by
    have h : n < rg.length := by omega
    have ih := fun v => Holds_l2 k hk (c := c) (tu := tu) hi hrg r (n + 1) f v (by omega) (by omega)
    rw [law19_RegionHolds.l2, if_pos (by simp only [decide_eq_true_eq]; omega), inc n (by omega), List.drop_eq_getElem_cons h, List.any_cons]
    cases v
    · simp only [Bool.false_eq_true, if_false, idx_nat h, idx_nat hi, Option.bind_some, ref01_Within_at hk]
      cases rg[n].Unit == c.Unit
      · simp only [Bool.false_eq_true, if_false, Option.bind_some, Bool.false_and, Bool.false_or]
        rw [ih]; simp
      · simp only [if_true, Option.bind_some, Bool.true_and, Bool.false_or]
        rw [ih]; rfl
    · simp only [if_true, Option.bind_some, Bool.true_or]
      rw [ih]; simp
theorem Holds_l1 (k : Nat) (hk : 12 < k) {rg : List TRegion} {c : TChange} {tu : List TRule} (hrg : rg.length < 2 ^ 60) (hrk : rg.length < k) (htl : tu.length < 2 ^ 60)
    (hall : ∀ x ∈ tu, ∃ R ∈ rg, R.Unit = c.Unit ∧ wC x.Match R.Cube = true ∧ Sb x.Match = true ∧ Sb R.Cube = true) : ∀ (r n f : Nat), n + r = tu.length → r < f →
    law19_RegionHolds.l1 k rg c tu f (n : Int) = some (.brk ())
  | r, n, 0, _, h => by omega
  | 0, n, f + 1, hn, _ => by
    rw [law19_RegionHolds.l1, if_neg (by simp only [decide_eq_true_eq]; omega)]
  | r + 1, n, f + 1, hn, hf => by
    have h : n < tu.length := by omega
    have h2 := Holds_l2 k hk (rg := rg) (c := c) h hrg rg.length 0 k false (by omega) hrk
    rw [show ((0 : Nat) : Int) = 0 from rfl, List.drop_zero, Bool.false_or] at h2
    have h3 : (rg.any fun R => (R.Unit == c.Unit) && (wC tu[n].Match R.Cube && (Sb tu[n].Match && Sb R.Cube))) = true := by
      obtain ⟨R, hR, h4, h5, h6, h7⟩ := hall _ (List.getElem_mem h)
      exact List.any_eq_true.2 ⟨R, hR, by simp [h4, h5, h6, h7]⟩
    rw [law19_RegionHolds.l1, if_pos (by simp only [decide_eq_true_eq]; omega), h2, Option.bind_some, h3, if_neg (by simp), inc n (by omega)]
    exact Holds_l1 k hk hrg hrk htl hall r (n + 1) f (by omega) (by omega)
theorem Holds_l0 (k : Nat) (hk : 5000 < k) {l : List TRule} {ch : List TChange} (hl : ∀ r ∈ l, OkR k r) (hlen : l.length ≤ 20) (hch : ∀ c ∈ ch, OkM k c.Mod) (hcl : ch.length ≤ 10) : ∀ (r n f : Nat), n + r = ch.length → r < f →
    law19_RegionHolds.l0 k l ch (ofC ch) f (n : Int) = some (.brk ()) ∨ law19_RegionHolds.l0 k l ch (ofC ch) f (n : Int) = some (.ret true)
  | r, n, 0, _, h => by omega
  | 0, n, f + 1, hn, _ => by
    rw [law19_RegionHolds.l0, if_neg (by simp only [decide_eq_true_eq]; omega)]
    exact .inl rfl
  | r + 1, n, f + 1, hn, hf => by
    have h : n < ch.length := by omega
    have hc := hch _ (List.getElem_mem h)
    have hcr : RCh ch := fun c hc => (hch c hc).rc
    have ih := Holds_l0 k hk hl hlen hch hcl r (n + 1) f (by omega) (by omega)
    rw [law19_RegionHolds.l0, if_pos (by simp only [decide_eq_true_eq]; omega), idx_nat h, Option.bind_some, inc n (by omega)]
    obtain ⟨b, hb1, hb2⟩ := Mod_some (show 64 < k by omega) hc.rc hc.len hc.big
    have out : ∃ x32, (if decide (10 < (ch[n].Mod.Acts.length : Int)) = true then some true else (ref04_Mod k ch[n].Mod).bind fun x42 => some (!x42)) = some x32 ∧ (x32 = false → b = true) := by
      by_cases h10 : 10 < ch[n].Mod.Acts.length
      · exact ⟨true, by rw [if_pos (by simp only [decide_eq_true_eq]; omega)], fun h => by cases h⟩
      · refine ⟨!b, by rw [if_neg (by simp only [decide_eq_true_eq]; omega), hb1]; rfl, fun h => by simpa using h⟩
    obtain ⟨x32, hx1, hx2⟩ := out
    rw [hx1, Option.bind_some]
    cases x32
    · have hsm := hb2 (hx2 rfl)
      obtain ⟨p, hp1, hp2⟩ := Apply_some (show 2000 < k by omega) hc hl (by omega)
      simp only [Bool.false_eq_true, if_false]
      rw [hp1, Option.bind_some]
      by_cases he : p.2 = 0
      · obtain ⟨hlen1, hok, hsrc, hkept⟩ := hp2 he
        rw [if_neg (by simp [he])]
        obtain ⟨a1, ha1, ha2, ha3⟩ := Alone_some (k := k) (b := p.1) hl (by omega) (by omega) (by omega) (by omega)
        obtain ⟨a2, hb1', hb2', hb3'⟩ := Alone_some (k := k) (a := p.1) (b := l) hok (by omega) (by omega) (by omega) (by omega)
        have hnear : ∀ x ∈ a1 ++ a2, near x ch[n].Mod := fun x hx => by
          rcases List.mem_append.1 hx with hx | hx
          · have := ha3 x hx
            rcases hkept x this.1 with h1 | h1
            · exact absurd h1 this.2
            · exact h1
          · have := hb3' x hx
            rcases hsrc x this.1 with h1 | h1
            · exact absurd h1 this.2
            · exact h1
        have hrcx : ∀ x ∈ a1 ++ a2, RC x.Match := fun x hx => by
          rcases List.mem_append.1 hx with hx | hx
          · exact (hl x (ha3 x hx).1).rc
          · exact (hok x (hb3' x hx).1).rc
        have hofl := ofC_len ch
        have hall : ∀ x ∈ a1 ++ a2, ∃ R ∈ ofC ch, R.Unit = ch[n].Unit ∧ wC x.Match R.Cube = true ∧ Sb x.Match = true ∧ Sb R.Cube = true := fun x hx => by
          obtain ⟨h1, h2, h3⟩ := hnear x hx
          have hreg : regOf ch[n] ∈ regL ch := mem_regL.2 ⟨ch[n], List.getElem_mem h, hsm, rfl⟩
          obtain ⟨R, hR, hu, hw⟩ := aboveR hcr _ _ (Nat.le_refl _) hreg
          have hRS := regL_SD hcr ((mem_ofC hcr).1 hR).1
          exact ⟨R, hR, hu, wC_trans (hrcx x hx) hc.rc hRS.rc h1 hw, h2, (Sb_iff hRS.rc).2 hRS⟩
        rw [ha1, Option.bind_some, hb1', Option.bind_some, app_some (by omega), Option.bind_some]
        have hl1 := Holds_l1 k (by omega) (rg := ofC ch) (c := ch[n]) (tu := a1 ++ a2) (by omega) (by omega) (by rw [List.length_append]; omega) hall (a1 ++ a2).length 0 k (by omega) (by rw [List.length_append]; omega)
        rw [show ((0 : Nat) : Int) = 0 from rfl] at hl1
        rw [hl1, Option.bind_some, Option.bind_some]
        exact ih
      · rw [if_pos (by simpa using he), Option.bind_some]
        exact ih
    · simp only [if_true]
      rw [answers19 (by omega)]
      exact .inr rfl
theorem law_RegionHolds {k : Nat} (hk : 5000 < k) {l : List TRule} {ch : List TChange} (hl : ∀ r ∈ l, OkR k r) (hch : ∀ c ∈ ch, OkM k c.Mod) : law19_RegionHolds k l ch = some true := by
  unfold law19_RegionHolds
  by_cases h : 10 < ch.length ∨ 20 < l.length
  · rw [if_pos (by simp only [Bool.or_eq_true, decide_eq_true_eq]; omega), answers19 (by omega)]; rfl
  · rw [if_neg (by simp only [Bool.or_eq_true, decide_eq_true_eq]; omega)]
    have hcr : RCh ch := fun c hc => (hch c hc).rc
    rw [region_Of_at (by omega) hcr (by omega) (by omega), Option.bind_some]
    have h0 := Holds_l0 k hk hl (by omega) hch (by omega) ch.length 0 k (by omega) (by omega)
    rw [show ((0 : Nat) : Int) = 0 from rfl] at h0
    rcases h0 with h0 | h0
    · rw [h0, Option.bind_some]
      simp only
      rw [answers19 (by omega)]; rfl
    · rw [h0, Option.bind_some]
end Go.Proofs.Ytangebngeeamoaa
