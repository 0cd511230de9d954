/- Plain laws on rules: which ones a change touches, as the document has it. -/
import Derived.Test.YtangebngeeamoaaQ3
set_option linter.unusedVariables false
set_option linter.unusedSimpArgs false
set_option maxRecDepth 100000
namespace Go.Proofs.Ytangebngeeamoaa
open Go.RowKit Go.Pod

theorem ite_some {α : Type} (c : Prop) [Decidable c] (a b : α) : (if c then some a else some b) = some (if c then a else b) := by split <;> rfl
theorem inc63 (n : Nat) (h : n + 1 < 2 ^ 63) : IntKind.i64.wrap ((n : Int) + 1) = ((n + 1 : Nat) : Int) := by rw [wrapI (by omega) (by omega)]; simp
/-! ### Actions -/
theorem Acts_l0 (k : Nat) {l : List TAct} (h2 : l.length < 2 ^ 63) : ∀ (r n m : Nat), n + r = l.length → r < m → ∃ o, ref04_Acts.l0 k l m (n : Int) = some o
  | r, n, 0, _, h => by omega
  | 0, n, m + 1, hn, _ => by
    rw [ref04_Acts.l0, if_neg (by simp only [decide_eq_true_eq]; omega)]
    exact ⟨_, rfl⟩
  | r + 1, n, m + 1, hn, hm => by
    have h : n < l.length := by omega
    have ih := Acts_l0 k h2 r (n + 1) m (by omega) (by omega)
    rw [ref04_Acts.l0, if_pos (by simp only [decide_eq_true_eq]; omega), idx_nat h, Option.bind_some, inc63 n (by omega)]
    have fin : ∀ b : Bool, ∃ o, (if (!b) = true then some (Lo.ret false) else ref04_Acts.l0 k l m ((n + 1 : Nat) : Int)) = some o := fun b => by
      cases b
      · exact ⟨_, rfl⟩
      · exact ih
    generalize l[n] = x
    cases e1 : (x.Kind == 1)
    · cases e2 : (x.Kind == 2)
      · cases e3 : (x.Kind == 3) <;> simp only [Bool.false_eq_true, if_false, if_true, Option.bind_some] <;> exact fin _
      · cases e4 : ((x.Port == 0) && (decide (0 ≤ x.Field)) && (decide (x.Field < 12)))
        · simp only [Bool.false_eq_true, if_false, if_true, Option.bind_some]
          exact fin _
        · simp only [Bool.and_eq_true, decide_eq_true_eq] at e4
          obtain ⟨f, hf⟩ := Int.eq_ofNat_of_zero_le e4.1.2
          have hf12 : f < 12 := by omega
          simp only [Bool.false_eq_true, if_false, if_true, Option.bind_some]
          rw [hf, ref01_Size_at hf12, Option.bind_some, ref01_Fits_at hf12]
          simp only [Option.bind_some]
          exact fin _
    · simp only [if_true, Option.bind_some]
      exact fin _
theorem Acts_some {k : Nat} {l : List TAct} (h : l.length < k) (h2 : l.length < 2 ^ 63) : ∃ b, ref04_Acts k l = some b := by
  unfold ref04_Acts
  obtain ⟨o, ho⟩ := Acts_l0 k h2 l.length 0 k (by omega) h
  rw [show ((0 : Nat) : Int) = 0 from rfl] at ho
  rw [ho, Option.bind_some]
  cases o <;> exact ⟨_, rfl⟩
theorem SameActs_l0 (k : Nat) {a b : List TAct} (hab : a.length = b.length) (h2 : a.length < 2 ^ 63) : ∀ (r n m : Nat), n + r = a.length → r < m → ∃ o, ref04_SameActs.l0 k a b m (n : Int) = some o ∧ (a = b → o = .brk ())
  | r, n, 0, _, h => by omega
  | 0, n, m + 1, hn, _ => by
    rw [ref04_SameActs.l0, if_neg (by simp only [decide_eq_true_eq]; omega)]
    exact ⟨_, rfl, fun _ => rfl⟩
  | r + 1, n, m + 1, hn, hm => by
    have h : n < a.length := by omega
    have h' : n < b.length := by omega
    obtain ⟨o, ho, he⟩ := SameActs_l0 k hab h2 r (n + 1) m (by omega) (by omega)
    rw [ref04_SameActs.l0, if_pos (by simp only [decide_eq_true_eq]; omega), idx_nat h, Option.bind_some, idx_nat h', Option.bind_some, inc63 n (by omega)]
    cases hc : cellsEq (TAct.enc a[n]) (TAct.enc b[n])
    · refine ⟨.ret false, by simp, fun e => ?_⟩
      subst e
      have : cellsEq (TAct.enc a[n]) (TAct.enc a[n]) = true := cellsEq_refl _ (by simp [TAct.enc, leafEq])
      rw [this] at hc; cases hc
    · exact ⟨o, by simpa using ho, he⟩
theorem SameActs_some {k : Nat} {a b : List TAct} (h : a.length < k) (h2 : a.length < 2 ^ 63) : ∃ s, ref04_SameActs k a b = some s ∧ (a = b → s = true) := by
  unfold ref04_SameActs
  by_cases hl : a.length = b.length
  · rw [if_neg (by simp [hl])]
    obtain ⟨o, ho, he⟩ := SameActs_l0 k hl h2 a.length 0 k (by omega) h
    rw [show ((0 : Nat) : Int) = 0 from rfl] at ho
    rw [ho, Option.bind_some]
    cases o with
    | ret r => exact ⟨r, rfl, fun e => by cases he e⟩
    | brk u => exact ⟨true, rfl, fun _ => rfl⟩
  · rw [if_pos (by rw [bne_iff_ne]; omega)]
    exact ⟨false, rfl, fun e => absurd (by rw [e]) hl⟩
/-! ### Rules and changes -/
structure OkR (k : Nat) (r : TRule) : Prop where
  rc : RC r.Match
  len : r.Acts.length < k
  big : r.Acts.length < 2 ^ 63
theorem Cube_at {k : Nat} (hk : 64 < k) {c : TCube} (hc : RC c) : ref01_Cube k c = some (Sb c) := by
  unfold ref01_Cube
  rw [ref01_Text_at hk hc]; rfl
theorem Rule_some {k : Nat} (hk : 64 < k) {r : TRule} (h : OkR k r) : ∃ b, ref04_Rule k r = some b ∧ (b = true → Sb r.Match = true) := by
  obtain ⟨a, ha⟩ := Acts_some h.len h.big
  unfold ref04_Rule ref04_span
  rw [Cube_at hk h.rc, ha]
  cases Sb r.Match
  · simp only [Option.bind_some, Bool.false_eq_true, if_false, Bool.false_and]
    exact ⟨_, rfl, fun h => by cases h⟩
  · simp only [Option.bind_some, ite_some]
    exact ⟨_, rfl, fun _ => trivial⟩
theorem Mod_some {k : Nat} (hk : 64 < k) {m : TMod} (hc : RC m.Match) (hl : m.Acts.length < k) (hb : m.Acts.length < 2 ^ 63) : ∃ b, ref04_Mod k m = some b ∧ (b = true → Sb m.Match = true) := by
  obtain ⟨a, ha⟩ := Acts_some hl hb
  unfold ref04_Mod ref04_span
  rw [Cube_at hk hc, ha]
  cases Sb m.Match
  · simp only [Option.bind_some, ite_some, Bool.not_false, if_true, ite_self]
    exact ⟨_, rfl, fun h => by cases h⟩
  · simp only [Option.bind_some, ite_some]
    exact ⟨_, rfl, fun _ => trivial⟩
def ruleB (k : Nat) (r : TRule) : Bool := (ref04_Rule k r).getD false
theorem Rule_at {k : Nat} (hk : 64 < k) {r : TRule} (h : OkR k r) : ref04_Rule k r = some (ruleB k r) ∧ (ruleB k r = true → Sb r.Match = true) := by
  obtain ⟨b, h1, h2⟩ := Rule_some hk h
  unfold ruleB
  rw [h1]
  exact ⟨rfl, h2⟩
def keyB (a b : TRule) : Bool := decide (a.Match = b.Match) && (a.Prio == b.Prio)
theorem Key_at (a b : TRule) : ref04_Key a b = some (keyB a b) := by
  unfold ref04_Key keyB
  rw [cellsEq_dec]
theorem keyB_match {a b : TRule} (h : keyB a b = true) : a.Match = b.Match := by
  unfold keyB at h
  simpa using (Bool.and_eq_true_iff.1 h).1
theorem Order_l0 (k : Nat) (a b : Arr 12) : ∀ (r n m : Nat), n + r = 12 → r < m →
    ref01_Order.l0 k a b m (n : Int) = some (if cmpL ((A12u64.list a).drop n) ((A12u64.list b).drop n) = 0 then .brk () else .ret (cmpL ((A12u64.list a).drop n) ((A12u64.list b).drop n)))
  | r, n, 0, _, h => by omega
  | 0, n, m + 1, hn, _ => by
    obtain rfl : n = 12 := by omega
    rw [ref01_Order.l0, if_neg (by decide)]; rfl
  | r + 1, n, m + 1, hn, hm => by
    have h : n < 12 := by omega
    have e : ∀ x : Arr 12, (A12u64.list x).drop n = x.at (n : Int) :: (A12u64.list x).drop (n + 1) := fun x => by
      match n, h with
      | 0, _ | 1, _ | 2, _ | 3, _ | 4, _ | 5, _ | 6, _ | 7, _ | 8, _ | 9, _ | 10, _ | 11, _ => rfl
    rw [ref01_Order.l0, if_pos (by simp only [decide_eq_true_eq]; omega), if_pos (by omega), e a, e b, cmpL]
    by_cases h1 : a.at (n : Int) < b.at (n : Int)
    · simp [h1]
    · by_cases h2 : b.at (n : Int) < a.at (n : Int)
      · simp [h1, h2]
      · simp only [h1, h2, if_false, decide_false, Bool.false_eq_true]
        rw [inc n (by omega)]
        exact Order_l0 k a b r (n + 1) m (by omega) (by omega)
theorem Order_at {k : Nat} (hk : 12 < k) (a b : Arr 12) : ref01_Order k a b = some (cmpL (A12u64.list a) (A12u64.list b)) := by
  unfold ref01_Order
  have := Order_l0 k a b 12 0 k rfl hk
  rw [show ((0 : Nat) : Int) = 0 from rfl, List.drop_zero, List.drop_zero] at this
  rw [this]
  by_cases h : cmpL (A12u64.list a) (A12u64.list b) = 0
  · rw [if_pos h, h]; rfl
  · rw [if_neg h]; rfl
theorem Compare_at {k : Nat} (hk : 12 < k) (a b : TCube) : ref01_Compare k a b = some (cc a b) := by
  unfold ref01_Compare
  rw [Order_at hk, Option.bind_some, Order_at hk]
  unfold cc keyC
  rw [cmpL_app (A12u64.list a.Care) (A12u64.list b.Care) _ _ rfl]
  by_cases h : cmpL (A12u64.list a.Care) (A12u64.list b.Care) = 0
  · rw [if_pos h, if_neg (by simp [h])]; rfl
  · rw [if_neg h, if_pos (by simpa using h)]
def beB (a b : TRule) : Bool := if (a.Prio != b.Prio) then decide (b.Prio < a.Prio) else decide (cc a.Match b.Match < 0)
theorem Before_at {k : Nat} (hk : 12 < k) (a b : TRule) : ref04_Before k a b = some (beB a b) := by
  unfold ref04_Before beB
  rw [Compare_at hk]
  split <;> rfl
theorem beB_iff {a b : TRule} : beB a b = true ↔ b.Prio < a.Prio ∨ (a.Prio = b.Prio ∧ ltC a.Match b.Match) := by
  unfold beB ltC
  by_cases h : a.Prio = b.Prio
  · rw [if_neg (by simp [h]), decide_eq_true_eq]
    exact ⟨fun h1 => .inr ⟨h, h1⟩, fun h1 => by rcases h1 with h1 | h1; omega; exact h1.2⟩
  · rw [if_pos (by simpa using h), decide_eq_true_eq]
    exact ⟨.inl, fun h1 => by rcases h1 with h1 | h1; exact h1; exact absurd h1.1 h⟩
theorem beB_trans {a b c : TRule} (h : beB a b = true) (k : beB b c = true) : beB a c = true := by
  rw [beB_iff] at *
  rcases h with h | h <;> rcases k with k | k
  · left; omega
  · left; omega
  · left; omega
  · exact .inr ⟨h.1.trans k.1, ltC.trans h.2 k.2⟩
theorem beB_key {a b : TRule} (h : beB a b = true) : keyB a b = false := by
  cases hk : keyB a b
  · rfl
  · exfalso
    rw [beB_iff] at h
    unfold keyB at hk
    rw [Bool.and_eq_true_iff, decide_eq_true_eq, beq_iff_eq] at hk
    rcases h with h | h
    · omega
    · rw [hk.1] at h; exact ltC.irrefl _ h.2
def TabOK (k : Nat) (l : List TRule) : Prop := (∀ r ∈ l, ruleB k r = true) ∧ l.Pairwise fun a b => beB a b = true
theorem Table_l0 (k : Nat) (hk : 64 < k) {l : List TRule} (hl : ∀ r ∈ l, OkR k r) (hlen : l.length < 2 ^ 60) : ∀ (r n m : Nat), n + r = l.length → r < m → TabOK k (l.take n) →
    ∃ o, ref04_Table.l0 k l m (n : Int) = some o ∧ (o = .ret false ∨ (o = .brk () ∧ TabOK k l))
  | r, n, 0, _, h, _ => by omega
  | 0, n, m + 1, hn, _, ht => by
    refine ⟨.brk (), ?_, .inr ⟨rfl, ?_⟩⟩
    · rw [ref04_Table.l0, if_neg (by simp only [decide_eq_true_eq]; omega)]
    · rwa [List.take_of_length_le (by omega)] at ht
  | r + 1, n, m + 1, hn, hm, ht => by
    have h : n < l.length := by omega
    rw [ref04_Table.l0, if_pos (by simp only [decide_eq_true_eq]; omega), idx_nat h, Option.bind_some, (Rule_at hk (hl _ (List.getElem_mem h))).1, Option.bind_some, inc n (by omega)]
    cases hr : ruleB k l[n]
    · exact ⟨.ret false, by simp, .inl rfl⟩
    · have e : l.take (n + 1) = l.take n ++ [l[n]] := by rw [List.take_add_one, List.getElem?_eq_getElem h]; rfl
      have go : (∀ x ∈ l.take n, beB x l[n] = true) → ∃ o, ref04_Table.l0 k l m ((n + 1 : Nat) : Int) = some o ∧ (o = .ret false ∨ (o = .brk () ∧ TabOK k l)) := fun hx => by
        refine Table_l0 k hk hl hlen r (n + 1) m (by omega) (by omega) ⟨fun x hx' => ?_, ?_⟩
        · rw [e] at hx'
          rcases List.mem_append.1 hx' with h1 | h1
          · exact ht.1 x h1
          · rw [List.mem_singleton] at h1; subst h1; exact hr
        · rw [e, List.pairwise_append]
          exact ⟨ht.2, by simp, fun x hx' y hy => by rw [List.mem_singleton] at hy; subst hy; exact hx x hx'⟩
      rcases Nat.eq_zero_or_pos n with h0 | h0
      · subst h0
        obtain ⟨o, h1, h2⟩ := go (by simp)
        exact ⟨o, by simpa using h1, h2⟩
      · have h' : n - 1 < l.length := by omega
        have w : IntKind.i64.wrap ((n : Int) - 1) = ((n - 1 : Nat) : Int) := by rw [wrapI (by omega) (by omega)]; omega
        rw [w]
        simp only [Bool.not_true, Bool.false_eq_true, if_false, idx_nat h', Option.bind_some, Before_at (show 12 < k by omega)]
        rw [if_pos (by simp only [decide_eq_true_eq]; omega)]
        simp only [Option.bind_some]
        cases hb : beB l[n - 1] l[n]
        · exact ⟨.ret false, by simp, .inl rfl⟩
        · obtain ⟨o, h1, h2⟩ := go fun x hx => by
            obtain ⟨j, hj, rfl⟩ := List.mem_take_iff_getElem.1 hx
            rcases Nat.lt_or_ge j (n - 1) with h3 | h3
            · refine beB_trans ?_ hb
              have := List.pairwise_iff_getElem.1 ht.2 j (n - 1) (by rw [List.length_take]; omega) (by rw [List.length_take]; omega) h3
              simpa using this
            · have : j = n - 1 := by omega
              subst this
              exact hb
          exact ⟨o, by simpa using h1, h2⟩
theorem Table_some {k : Nat} (hk : 64 < k) {l : List TRule} (hl : ∀ r ∈ l, OkR k r) (hlk : l.length < k) (hlen : l.length < 2 ^ 60) : ∃ t, ref04_Table k l = some t ∧ (t = true → TabOK k l) := by
  unfold ref04_Table
  obtain ⟨o, h1, h2⟩ := Table_l0 k hk hl hlen l.length 0 k (by omega) hlk ⟨by simp, by simp⟩
  rw [show ((0 : Nat) : Int) = 0 from rfl] at h1
  rw [h1, Option.bind_some]
  rcases h2 with rfl | ⟨rfl, h3⟩
  · exact ⟨false, rfl, fun h => by cases h⟩
  · exact ⟨true, rfl, fun _ => h3⟩
theorem Sort_l1 (k : Nat) (hk : 12 < k) {out : List TRule} {c : TRule} (hlen : out.length < 2 ^ 60) : ∀ (r n m : Nat), n + r = out.length → r < m → ∃ p : Nat, ref04_Sort.l1 k out c m (n : Int) = some (p : Int) ∧ p ≤ out.length
  | r, n, 0, _, h => by omega
  | 0, n, m + 1, hn, _ => by
    rw [ref04_Sort.l1, if_neg (by simp only [decide_eq_true_eq]; omega)]
    exact ⟨n, by simp, by omega⟩
  | r + 1, n, m + 1, hn, hm => by
    have h : n < out.length := by omega
    rw [ref04_Sort.l1, if_pos (by simp only [decide_eq_true_eq]; omega), idx_nat h, Option.bind_some, Before_at hk, Option.bind_some, Option.bind_some, inc n (by omega)]
    cases beB out[n] c
    · exact ⟨n, by simp, by omega⟩
    · obtain ⟨p, h1, h2⟩ := Sort_l1 k hk hlen r (n + 1) m (by omega) (by omega)
      exact ⟨p, by simpa using h1, h2⟩
theorem Sort_l0 (k : Nat) (hk : 2000 < k) {l : List TRule} (hl : ∀ r ∈ l, OkR k r) (hlen : l.length ≤ 1001) : ∀ (r n m : Nat) (out : List TRule), n + r = l.length → r < m → out.length ≤ n → (∀ x ∈ out, x ∈ l.take n) →
    (∀ (i : Nat) (x : TRule), i < n → l[i]? = some x → ruleB k x = true → x ∈ out ∨ ∃ (j : Nat) (y : TRule), i < j ∧ j < n ∧ l[j]? = some y ∧ keyB x y = true) →
    ∃ o, ref04_Sort.l0 k l m out (n : Int) = some o ∧ o.length ≤ l.length ∧ (∀ x ∈ o, x ∈ l) ∧ (∀ (i : Nat) (x : TRule), l[i]? = some x → ruleB k x = true → x ∈ o ∨ ∃ (j : Nat) (y : TRule), i < j ∧ l[j]? = some y ∧ keyB x y = true)
  | r, n, 0, _, _, h, _, _, _ => by omega
  | 0, n, m + 1, out, hn, _, ho, h1, h2 => by
    refine ⟨out, ?_, by omega, fun x hx => List.mem_of_mem_take (h1 x hx), fun i x hx hb => ?_⟩
    · rw [ref04_Sort.l0, if_neg (by simp only [decide_eq_true_eq]; omega)]
    · rcases h2 i x (by have := (List.getElem?_eq_some_iff.1 hx).1; omega) hx hb with h3 | ⟨j, y, h3, _, h4⟩
      · exact .inl h3
      · exact .inr ⟨j, y, h3, h4⟩
  | r + 1, n, m + 1, out, hn, hm, ho, h1, h2 => by
    have h : n < l.length := by omega
    have hg : l[n]? = some l[n] := List.getElem?_eq_getElem h
    have e : l.take (n + 1) = l.take n ++ [l[n]] := by rw [List.take_add_one, hg]; rfl
    rw [ref04_Sort.l0, if_pos (by simp only [decide_eq_true_eq]; omega), idx_nat h, Option.bind_some, (Rule_at (by omega) (hl _ (List.getElem_mem h))).1, Option.bind_some, inc n (by omega)]
    cases hr : ruleB k l[n]
    · simp only [Bool.not_false, if_true, Option.bind_some]
      refine Sort_l0 k hk hl hlen r (n + 1) m out (by omega) (by omega) (by omega) (fun x hx => by rw [e]; exact List.mem_append_left _ (h1 x hx)) fun i x hi hx hb => ?_
      rcases Nat.lt_or_ge i n with h3 | h3
      · rcases h2 i x h3 hx hb with h4 | ⟨j, y, h4, h5, h6⟩
        · exact .inl h4
        · exact .inr ⟨j, y, h4, by omega, h6⟩
      · obtain rfl : i = n := by omega
        rw [hg] at hx
        cases hx
        rw [hr] at hb; cases hb
    · obtain ⟨p, hp1, hp2⟩ := Sort_l1 k (by omega) (c := l[n]) (out := out) (by omega) out.length 0 k (by omega) (by omega)
      rw [show ((0 : Nat) : Int) = 0 from rfl] at hp1
      simp only [Bool.not_true, Bool.false_eq_true, if_false]
      rw [hp1, Option.bind_some, if_pos (by omega), Int.toNat_natCast, List.take_length]
      have hdl : (out.drop p).length = out.length - p := List.length_drop
      rw [app_some (by rw [List.length_nil, hdl]; omega), List.nil_append, Option.bind_some]
      have hrest : ∃ rest, ((if decide (0 < ((out.drop p).length : Int)) = true then (idx (out.drop p) 0).bind fun x53 => (ref04_Key x53 l[n]).bind fun x71 => some x71 else some false).bind fun (x50 : Bool) =>
          (if x50 = true then (if 0 ≤ 1 ∧ 1 ≤ ((out.drop p).length : Int) ∧ ((out.drop p).length : Int) ≤ (out.drop p).length then some (((out.drop p).take (out.drop p).length).drop (1 : Int).toNat) else none) else some (out.drop p))) = some rest ∧
          rest.length ≤ (out.drop p).length ∧ (∀ x ∈ rest, x ∈ out.drop p) ∧ (∀ x ∈ out.drop p, x ∈ rest ∨ keyB x l[n] = true) := by
        cases hd : out.drop p with
        | nil => exact ⟨[], by simp, by simp, by simp, by simp⟩
        | cons x0 xs =>
          have e0 : idx (x0 :: xs) 0 = some x0 := rfl
          rw [if_pos (by simp only [decide_eq_true_eq, List.length_cons]; omega), e0, Option.bind_some, Key_at, Option.bind_some, Option.bind_some]
          cases hkx : keyB x0 l[n]
          · exact ⟨x0 :: xs, by simp, Nat.le_refl _, fun _ h => h, fun x h => .inl h⟩
          · refine ⟨xs, ?_, by simp, fun x h => List.mem_cons_of_mem _ h, fun x h => ?_⟩
            · rw [if_pos rfl, if_pos ⟨by decide, by rw [List.length_cons]; omega, Int.le_refl _⟩, List.take_length]
              rfl
            · rcases List.mem_cons.1 h with h | h
              · subst h; exact .inr hkx
              · exact .inl h
      obtain ⟨rest, hr1, hr2, hr3, hr4⟩ := hrest
      have hcat : (((if decide (0 < ((out.drop p).length : Int)) = true then (idx (out.drop p) 0).bind fun x53 => (ref04_Key x53 l[n]).bind fun x71 => some x71 else some false).bind fun (x50 : Bool) =>
          (if x50 = true then (if 0 ≤ 1 ∧ 1 ≤ ((out.drop p).length : Int) ∧ ((out.drop p).length : Int) ≤ (out.drop p).length then some (((out.drop p).take (out.drop p).length).drop (1 : Int).toNat) else none) else some (out.drop p)).bind fun (x73 : List TRule) =>
          (if 0 ≤ 0 ∧ 0 ≤ (p : Int) ∧ (p : Int) ≤ out.length then (app 272 ([] : List TRule) ((out.take p).drop 0)).bind fun x91 => (app 272 x91 [l[n]]).bind fun x93 => (app 272 x93 x73).bind fun x95 => some x95 else none).bind fun (x78 : List TRule) => some x78)) =
          some (out.take p ++ [l[n]] ++ rest) := by
        have hassoc : ∀ (o : Option Bool) (f : Bool → Option (List TRule)) (g : List TRule → Option (List TRule)), (o.bind fun b => (f b).bind g) = (o.bind f).bind g := fun o f g => by cases o <;> rfl
        rw [hassoc, hr1, Option.bind_some, if_pos (by omega), List.drop_zero]
        have htl : (out.take p).length = p := by rw [List.length_take]; omega
        rw [app_some (by rw [List.length_nil, htl]; omega), List.nil_append, Option.bind_some, app_some (by rw [List.length_singleton, htl]; omega), Option.bind_some, app_some (by rw [List.length_append, List.length_singleton, htl]; omega)]
        rfl
      rw [hcat, Option.bind_some]
      have hmem : ∀ x, x ∈ out.take p ++ [l[n]] ++ rest → x ∈ out ∨ x = l[n] := fun x hx => by
        rcases List.mem_append.1 hx with hx | hx
        · rcases List.mem_append.1 hx with hx | hx
          · exact .inl (List.mem_of_mem_take hx)
          · exact .inr (List.mem_singleton.1 hx)
        · exact .inl (List.mem_of_mem_drop (hr3 x hx))
      have hkeep : ∀ x ∈ out, x ∈ out.take p ++ [l[n]] ++ rest ∨ keyB x l[n] = true := fun x hx => by
        rw [← List.take_append_drop p out] at hx
        rcases List.mem_append.1 hx with hx | hx
        · exact .inl (List.mem_append_left _ (List.mem_append_left _ hx))
        · rcases hr4 x hx with h3 | h3
          · exact .inl (List.mem_append_right _ h3)
          · exact .inr h3
      refine Sort_l0 k hk hl hlen r (n + 1) m _ (by omega) (by omega) ?_ (fun x hx => ?_) fun i x hi hx hb => ?_
      · rw [List.length_append, List.length_append, List.length_singleton, List.length_take]; omega
      · rw [e]
        rcases hmem x hx with h3 | h3
        · exact List.mem_append_left _ (h1 x h3)
        · subst h3; exact List.mem_append_right _ (by simp)
      · rcases Nat.lt_or_ge i n with h3 | h3
        · rcases h2 i x h3 hx hb with h4 | ⟨j, y, h4, h5, h6⟩
          · rcases hkeep x h4 with h5 | h5
            · exact .inl h5
            · exact .inr ⟨n, l[n], h3, by omega, hg, h5⟩
          · exact .inr ⟨j, y, h4, by omega, h6⟩
        · obtain rfl : i = n := by omega
          rw [hg] at hx
          cases hx
          exact .inl (by simp)
theorem Sort_some {k : Nat} (hk : 2000 < k) {l : List TRule} (hl : ∀ r ∈ l, OkR k r) (hlen : l.length ≤ 1001) :
    ∃ o, ref04_Sort k l = some o ∧ o.length ≤ l.length ∧ (∀ x ∈ o, x ∈ l) ∧ (∀ (i : Nat) (x : TRule), l[i]? = some x → ruleB k x = true → x ∈ o ∨ ∃ (j : Nat) (y : TRule), i < j ∧ l[j]? = some y ∧ keyB x y = true) := by
  unfold ref04_Sort
  obtain ⟨o, h1, h2⟩ := Sort_l0 k hk hl hlen l.length 0 k [] (by omega) (by omega) (by simp) (by simp) (fun i x hi => by omega)
  rw [show ((0 : Nat) : Int) = 0 from rfl] at h1
  rw [h1, Option.bind_some]
  exact ⟨o, rfl, h2⟩
end Go.Proofs.Ytangebngeeamoaa
