/- Plain laws on tables: their order, and sorting. -/
import Derived.Test.YtgfnkigoaajllaaGreatM1
set_option linter.unusedVariables false
set_option linter.unusedSimpArgs false
set_option maxRecDepth 100000
namespace Go.Proofs.YtgfnkigoaajllaaGreat
open Go.RowKit Go.Pod

def keyB (a b : TRule) : Bool := decide (a.Match = b.Match) && (a.Prio == b.Prio)
theorem rule_Key_at (a b : TRule) : rule_Key a b = some (keyB a b) := by
  unfold rule_Key keyB
  rw [cellsEq_dec]
theorem ref04_Key_at (a b : TRule) : ref04_Key a b = some (keyB a b) := by
  unfold ref04_Key keyB
  rw [cellsEq_dec]
theorem keyB_iff {a b : TRule} : keyB a b = true ↔ a.Match = b.Match ∧ a.Prio = b.Prio := by
  unfold keyB
  rw [Bool.and_eq_true_iff, decide_eq_true_eq, beq_iff_eq]
theorem Order_l0 (k : Nat) (a b : Arr 12) : ∀ (r n m : Nat), n + r = 12 → r < m →
    ref01_Order.l0 k a b m (n : Int) = some (if cmpL ((A12u64.list a).drop n) ((A12u64.list b).drop n) = 0 then .brk () else .ret (cmpL ((A12u64.list a).drop n) ((A12u64.list b).drop n)))
  | r, n, 0, _, h => by omega
  | 0, n, m + 1, hn, _ => by
    obtain rfl : n = 12 := by omega
    rw [ref01_Order.l0, if_neg (by decide)]; rfl
  | r + 1, n, m + 1, hn, hm => by
    have h : n < 12 := by omega
    have e : ∀ x : Arr 12, (A12u64.list x).drop n = x.at (n : Int) :: (A12u64.list x).drop (n + 1) := fun x => by
      match n, h with
      | 0, _ | 1, _ | 2, _ | 3, _ | 4, _ | 5, _ | 6, _ | 7, _ | 8, _ | 9, _ | 10, _ | 11, _ => rfl
    rw [ref01_Order.l0, if_pos (by simp only [decide_eq_true_eq]; omega), if_pos (by omega), e a, e b, cmpL]
    by_cases h1 : a.at (n : Int) < b.at (n : Int)
    · simp [h1]
    · by_cases h2 : b.at (n : Int) < a.at (n : Int)
      · simp [h1, h2]
      · simp only [h1, h2, if_false, decide_false, Bool.false_eq_true]
        rw [inc n (by omega)]
        exact Order_l0 k a b r (n + 1) m (by omega) (by omega)
theorem Order_at {k : Nat} (hk : 12 < k) (a b : Arr 12) : ref01_Order k a b = some (cmpL (A12u64.list a) (A12u64.list b)) := by
  unfold ref01_Order
  have := Order_l0 k a b 12 0 k rfl hk
  rw [show ((0 : Nat) : Int) = 0 from rfl, List.drop_zero, List.drop_zero] at this
  rw [this]
  by_cases h : cmpL (A12u64.list a) (A12u64.list b) = 0
  · rw [if_pos h, h]; rfl
  · rw [if_neg h]; rfl
theorem Compare_at {k : Nat} (hk : 12 < k) (a b : TCube) : ref01_Compare k a b = some (cc a b) := by
  unfold ref01_Compare
  rw [Order_at hk, Option.bind_some, Order_at hk]
  unfold cc keyC
  rw [cmpL_app (A12u64.list a.Care) (A12u64.list b.Care) _ _ rfl]
  by_cases h : cmpL (A12u64.list a.Care) (A12u64.list b.Care) = 0
  · rw [if_pos h, if_neg (by simp [h])]; rfl
  · rw [if_neg h, if_pos (by simpa using h)]
def cmpR (a b : TRule) : Int := if a.Prio ≠ b.Prio then (if b.Prio < a.Prio then -1 else 1) else cc a.Match b.Match
def beB (a b : TRule) : Bool := decide (cmpR a b < 0)
theorem rule_compare_at {k : Nat} (hk : 12 < k) (a b : TRule) : rule_compare k a b = some (cmpR a b) := by
  unfold rule_compare cmpR
  rw [cube_Compare_at hk]
  by_cases h : a.Prio = b.Prio
  · rw [if_neg (by simp [h]), if_neg (by simp [h])]; rfl
  · rw [if_pos (by simpa using h), if_pos h]
    by_cases h2 : b.Prio < a.Prio
    · rw [if_pos (by simpa using h2), if_pos h2]
    · rw [if_neg (by simpa using h2), if_neg h2]
theorem rule_Before_at {k : Nat} (hk : 12 < k) (a b : TRule) : rule_Before k a b = some (beB a b) := by
  unfold rule_Before
  rw [rule_compare_at hk]; rfl
theorem ref04_Before_at {k : Nat} (hk : 12 < k) (a b : TRule) : ref04_Before k a b = some (beB a b) := by
  unfold ref04_Before beB cmpR
  rw [Compare_at hk]
  by_cases h : a.Prio = b.Prio
  · rw [if_neg (by simp [h]), if_neg (by simp [h])]; rfl
  · rw [if_pos (by simpa using h), if_pos h]
    by_cases h2 : b.Prio < a.Prio
    · rw [if_pos h2]; simp [h2]
    · rw [if_neg h2]; simp [h2]
theorem beB_iff {a b : TRule} : beB a b = true ↔ b.Prio < a.Prio ∨ (a.Prio = b.Prio ∧ ltC a.Match b.Match) := by
  unfold beB cmpR ltC
  rw [decide_eq_true_eq]
  by_cases h : a.Prio = b.Prio
  · rw [if_neg (by simp [h])]
    exact ⟨fun h1 => .inr ⟨h, h1⟩, fun h1 => by rcases h1 with h1 | h1; omega; exact h1.2⟩
  · rw [if_pos h]
    by_cases h2 : b.Prio < a.Prio
    · rw [if_pos h2]; exact ⟨fun _ => .inl h2, fun _ => by decide⟩
    · rw [if_neg h2]; exact ⟨fun h1 => by omega, fun h1 => by rcases h1 with h1 | h1; omega; exact absurd h1.1 h⟩
theorem beB_trans {a b c : TRule} (h : beB a b = true) (k : beB b c = true) : beB a c = true := by
  rw [beB_iff] at *
  rcases h with h | h <;> rcases k with k | k
  · left; omega
  · left; omega
  · left; omega
  · exact .inr ⟨h.1.trans k.1, ltC.trans h.2 k.2⟩
theorem beB_key {a b : TRule} (h : beB a b = true) : keyB a b = false := by
  cases hk : keyB a b
  · rfl
  · exfalso
    rw [beB_iff] at h
    rw [keyB_iff] at hk
    rcases h with h | h
    · omega
    · rw [hk.1] at h; exact ltC.irrefl _ h.2
theorem beB_irrefl (a : TRule) : beB a a = false := by
  cases h : beB a a
  · rfl
  · rw [beB_iff] at h
    rcases h with h | h
    · omega
    · exact absurd h.2 (ltC.irrefl _)
theorem cmpR_zero {a b : TRule} : (cmpR a b == 0) = keyB a b := by
  rw [Bool.eq_iff_iff, beq_iff_eq, keyB_iff]
  unfold cmpR
  by_cases h : a.Prio = b.Prio
  · rw [if_neg (by simp [h])]
    exact ⟨fun h1 => ⟨cc_zero h1, h⟩, fun h1 => by rw [h1.1]; exact cc_self _⟩
  · rw [if_pos h]
    by_cases h2 : b.Prio < a.Prio
    · rw [if_pos h2]; exact ⟨fun h1 => by omega, fun h1 => absurd h1.2 h⟩
    · rw [if_neg h2]; exact ⟨fun h1 => by omega, fun h1 => absurd h1.2 h⟩
/-- Of two rules one is ahead, or they have the same key. -/
theorem beB_tri (a b : TRule) : beB a b = true ∨ keyB a b = true ∨ beB b a = true := by
  rw [beB_iff, beB_iff, keyB_iff]
  rcases Int.lt_trichotomy a.Prio b.Prio with h | h | h
  · exact .inr (.inr (.inl h))
  · rcases Int.lt_trichotomy (cc a.Match b.Match) 0 with h2 | h2 | h2
    · exact .inl (.inr ⟨h, h2⟩)
    · exact .inr (.inl ⟨cc_zero h2, h⟩)
    · refine .inr (.inr (.inr ⟨h.symm, ?_⟩))
      unfold ltC
      rw [cc_anti a.Match b.Match]; omega
  · exact .inl (.inl h)
/-- What has the key of another is ahead of what that is ahead of. -/
theorem beB_congr_l {a b c : TRule} (h : keyB a b = true) : beB a c = beB b c := by
  rw [keyB_iff] at h
  rw [Bool.eq_iff_iff, beB_iff, beB_iff, h.1, h.2]
theorem beB_congr_r {a b c : TRule} (h : keyB a b = true) : beB c a = beB c b := by
  rw [keyB_iff] at h
  rw [Bool.eq_iff_iff, beB_iff, beB_iff, h.1, h.2]
/-! ### Tables -/
def prevOk (l : List TRule) (x : TRule) : Nat → Bool
  | 0 => true
  | j + 1 => match l[j]? with | none => true | some y => beB y x
def okAt (l : List TRule) (i : Nat) : Bool := match l[i]? with
  | none => true
  | some x => ruleB x && prevOk l x i
def tabB (l : List TRule) : Bool := (List.range' 0 l.length).all (okAt l)
theorem tab_body {l : List TRule} {n : Nat} (h : n < l.length) (hn : n < 2 ^ 62) (f : TRule → TRule → Option Bool) (hf : ∀ a b, f a b = some (beB a b)) (K : Option (Lo Bool Unit)) :
    (((if (!ruleB l[n]) = true then some true
      else ((if (decide (0 < (n : Int))) = true then ((idx l (IntKind.i64.wrap ((n : Int) - 1))).bind fun x26 =>
          ((f x26 l[n]).bind fun x42 =>
          some (!x42)))
        else some false).bind fun (x23 : Bool) =>
        some x23)).bind fun (x19 : Bool) =>
      (if x19 = true then some (Lo.ret false) else K))) = if okAt l n then K else some (Lo.ret false) := by
  have e : okAt l n = (ruleB l[n] && prevOk l l[n] n) := by
    unfold okAt
    rw [List.getElem?_eq_getElem h]
  rw [e]
  cases ruleB l[n]
  · simp
  · rcases Nat.eq_zero_or_pos n with h0 | h0
    · subst h0; simp [prevOk]
    · obtain ⟨j, rfl⟩ : ∃ j, n = j + 1 := ⟨n - 1, by omega⟩
      have hj : j < l.length := by omega
      have w : IntKind.i64.wrap (((j + 1 : Nat) : Int) - 1) = (j : Int) := by rw [wrapI (by omega) (by omega)]; omega
      rw [w, idx_nat hj]
      simp only [Bool.not_true, Bool.false_eq_true, if_false, Option.bind_some, hf, Bool.true_and, prevOk, List.getElem?_eq_getElem hj]
      rw [if_pos (by simp only [decide_eq_true_eq]; omega)]
      simp only [Option.bind_some]
      cases beB l[j] l[j + 1] <;> simp
theorem rule_Table_l0 (k : Nat) (hk : 64 < k) {l : List TRule} (hl : ∀ r ∈ l, OkR k r) (hlen : l.length < 2 ^ 60) : ∀ (r n m : Nat), n + r = l.length → r < m → rule_Table.l0 k l m (n : Int) = some (if (List.range' n r).all (okAt l) then .brk () else .ret false)
  | r, n, 0, _, h => by omega
  | 0, n, m + 1, hn, _ => by
    rw [rule_Table.l0, if_neg (by simp only [decide_eq_true_eq]; omega)]; rfl
  | r + 1, n, m + 1, hn, hm => by
    have h : n < l.length := by omega
    rw [rule_Table.l0, if_pos (by simp only [decide_eq_true_eq]; omega), idx_nat h, Option.bind_some, rule_Sound_at hk (hl _ (List.getElem_mem h)), Option.bind_some, inc n (by omega), tab_body h (by omega) (rule_Before k) (rule_Before_at (by omega)), List.range'_succ, List.all_cons]
    cases okAt l n
    · simp
    · rw [if_pos rfl, Bool.true_and]
      exact rule_Table_l0 k hk hl hlen r (n + 1) m (by omega) (by omega)
theorem ref04_Table_l0 (k : Nat) (hk : 64 < k) {l : List TRule} (hl : ∀ r ∈ l, OkR k r) (hlen : l.length < 2 ^ 60) : ∀ (r n m : Nat), n + r = l.length → r < m → ref04_Table.l0 k l m (n : Int) = some (if (List.range' n r).all (okAt l) then .brk () else .ret false)
  | r, n, 0, _, h => by omega
  | 0, n, m + 1, hn, _ => by
    rw [ref04_Table.l0, if_neg (by simp only [decide_eq_true_eq]; omega)]; rfl
  | r + 1, n, m + 1, hn, hm => by
    have h : n < l.length := by omega
    rw [ref04_Table.l0, if_pos (by simp only [decide_eq_true_eq]; omega), idx_nat h, Option.bind_some, ref04_Rule_at hk (hl _ (List.getElem_mem h)), Option.bind_some, inc n (by omega), tab_body h (by omega) (ref04_Before k) (ref04_Before_at (by omega)), List.range'_succ, List.all_cons]
    cases okAt l n
    · simp
    · rw [if_pos rfl, Bool.true_and]
      exact ref04_Table_l0 k hk hl hlen r (n + 1) m (by omega) (by omega)
theorem rule_Table_at {k : Nat} (hk : 64 < k) {l : List TRule} (hl : ∀ r ∈ l, OkR k r) (hlk : l.length < k) (hlen : l.length < 2 ^ 60) : rule_Table k l = some (tabB l) := by
  unfold rule_Table tabB
  have h0 := rule_Table_l0 k hk hl hlen l.length 0 k (by omega) hlk
  rw [show ((0 : Nat) : Int) = 0 from rfl] at h0
  rw [h0]
  cases (List.range' 0 l.length).all (okAt l) <;> rfl
theorem ref04_Table_at {k : Nat} (hk : 64 < k) {l : List TRule} (hl : ∀ r ∈ l, OkR k r) (hlk : l.length < k) (hlen : l.length < 2 ^ 60) : ref04_Table k l = some (tabB l) := by
  unfold ref04_Table tabB
  have h0 := ref04_Table_l0 k hk hl hlen l.length 0 k (by omega) hlk
  rw [show ((0 : Nat) : Int) = 0 from rfl] at h0
  rw [h0]
  cases (List.range' 0 l.length).all (okAt l) <;> rfl
def TabOK (l : List TRule) : Prop := (∀ r ∈ l, ruleB r = true) ∧ l.Pairwise fun a b => beB a b = true
theorem tabB_iff {l : List TRule} : tabB l = true ↔ TabOK l := by
  unfold tabB
  rw [List.all_eq_true]
  have hat : ∀ i (hi : i < l.length), okAt l i = (ruleB l[i] && prevOk l l[i] i) := fun i hi => by
    unfold okAt
    rw [List.getElem?_eq_getElem hi]
  constructor
  · intro h
    have h1 : ∀ i (hi : i < l.length), ruleB l[i] = true ∧ prevOk l l[i] i = true := fun i hi => by
      have := h i (by rw [List.mem_range'_1]; omega)
      rw [hat i hi, Bool.and_eq_true_iff] at this
      exact this
    refine ⟨fun r hr => ?_, ?_⟩
    · obtain ⟨i, hi, rfl⟩ := List.mem_iff_getElem.1 hr
      exact (h1 i hi).1
    · rw [List.pairwise_iff_getElem]
      intro i j hi hj hij
      have key : ∀ d, ∀ j (hj : j < l.length), j = i + 1 + d → beB l[i] l[j] = true := by
        intro d
        induction d with
        | zero =>
          intro j hj e
          subst e
          have := (h1 (i + 1) hj).2
          simp only [prevOk, List.getElem?_eq_getElem hi] at this
          exact this
        | succ d ih =>
          intro j hj e
          subst e
          have h2 := (h1 (i + 1 + d + 1) hj).2
          have hj' : i + 1 + d < l.length := by omega
          simp only [prevOk, List.getElem?_eq_getElem hj'] at h2
          exact beB_trans (ih (i + 1 + d) hj' rfl) h2
      exact key (j - (i + 1)) j hj (by omega)
  · rintro ⟨h1, h2⟩ i hi
    rw [List.mem_range'_1] at hi
    have hil : i < l.length := by omega
    rw [hat i hil, h1 _ (List.getElem_mem hil), Bool.true_and]
    match i, hil with
    | 0, _ => rfl
    | j + 1, hil =>
      have hj : j < l.length := by omega
      simp only [prevOk, List.getElem?_eq_getElem hj]
      exact List.pairwise_iff_getElem.1 h2 j (j + 1) hj hil (by omega)
/-! ### Sorting -/
/-- Where a rule belongs. -/
def pos0 (out : List TRule) (c : TRule) : Nat := (out.findIdx? fun x => !beB x c).getD out.length
def Part (out : List TRule) (c : TRule) (p : Nat) : Prop := p ≤ out.length ∧ (∀ (i : Nat) (x : TRule), i < p → out[i]? = some x → beB x c = true) ∧ ∀ (x : TRule), out[p]? = some x → beB x c = false
theorem Part.one {out : List TRule} {c : TRule} {p q : Nat} (hs : out.Pairwise fun a b => beB a b = true) (hp : Part out c p) (hq : Part out c q) : p = q := by
  have key : ∀ {p q : Nat}, Part out c p → Part out c q → ¬ p < q := fun {p q} hp hq hlt => by
    have hpl : p < out.length := Nat.lt_of_lt_of_le hlt hq.1
    have h1 := hp.2.2 _ (List.getElem?_eq_getElem hpl)
    have h2 := hq.2.1 p _ hlt (List.getElem?_eq_getElem hpl)
    rw [h1] at h2; cases h2
  have := key hp hq
  have := key hq hp
  omega
def tailAt (out : List TRule) (c : TRule) (p : Nat) : List TRule := bif (out[p]?).any (fun x => keyB x c) then out.drop (p + 1) else out.drop p
theorem tailAt_sub (out : List TRule) (c : TRule) (p : Nat) : (tailAt out c p).Sublist out := by
  unfold tailAt
  cases (out[p]?).any (fun x => keyB x c)
  · exact List.drop_sublist _ _
  · exact List.drop_sublist _ _
def putAt (out : List TRule) (c : TRule) (p : Nat) : List TRule := out.take p ++ [c] ++ tailAt out c p
/-- In order, and each may be. -/
theorem putAt_ok {out : List TRule} {c : TRule} {p : Nat} (hs : TabOK out) (hc : ruleB c = true) (hp : Part out c p) : TabOK (putAt out c p) := by
  have hlow : ∀ x ∈ out.take p, beB x c = true := fun x hx => by
    obtain ⟨i, hi, rfl⟩ := List.mem_take_iff_getElem.1 hx
    exact hp.2.1 i _ (by omega) (List.getElem?_eq_getElem (by omega))
  have hhigh : ∀ x ∈ tailAt out c p, beB c x = true := fun x hx => by
    unfold tailAt at hx
    by_cases hpl : p < out.length
    · have hg := List.getElem?_eq_getElem hpl
      have h0 := hp.2.2 _ hg
      rw [hg, Option.any_some] at hx
      cases hk : keyB out[p] c
      · rw [hk] at hx
        rw [cond_false] at hx
        have hcp : beB c out[p] = true := by
          rcases beB_tri out[p] c with h | h | h
          · rw [h0] at h; cases h
          · rw [hk] at h; cases h
          · exact h
        obtain ⟨j, hj, rfl⟩ := List.mem_iff_getElem.1 hx
        rw [List.length_drop] at hj
        rw [List.getElem_drop]
        rcases Nat.eq_zero_or_pos j with h3 | h3
        · subst h3; exact hcp
        · exact beB_trans hcp (List.pairwise_iff_getElem.1 hs.2 p (p + j) hpl (by omega) (by omega))
      · rw [hk] at hx
        rw [cond_true] at hx
        obtain ⟨j, hj, rfl⟩ := List.mem_iff_getElem.1 hx
        rw [List.length_drop] at hj
        rw [List.getElem_drop, ← beB_congr_l hk]
        exact List.pairwise_iff_getElem.1 hs.2 p (p + 1 + j) hpl (by omega) (by omega)
    · rw [List.getElem?_eq_none (by omega)] at hx
      rw [Option.any_none, cond_false] at hx
      rw [List.drop_eq_nil_of_le (by omega)] at hx
      cases hx
  have hsub := tailAt_sub out c p
  unfold putAt
  refine ⟨fun r hr => ?_, ?_⟩
  · rcases List.mem_append.1 hr with hr | hr
    · rcases List.mem_append.1 hr with hr | hr
      · exact hs.1 r (List.mem_of_mem_take hr)
      · rw [List.mem_singleton] at hr; subst hr; exact hc
    · exact hs.1 r (hsub.subset hr)
  · rw [List.append_assoc, List.pairwise_append]
    refine ⟨hs.2.sublist (List.take_sublist _ _), ?_, fun a ha b hb => ?_⟩
    · rw [List.singleton_append, List.pairwise_cons]
      exact ⟨hhigh, hs.2.sublist hsub⟩
    · rw [List.singleton_append] at hb
      rcases List.mem_cons.1 hb with hb | hb
      · subst hb; exact hlow a ha
      · exact beB_trans (hlow a ha) (hhigh b hb)
theorem putAt_len {out : List TRule} {c : TRule} {p : Nat} : (putAt out c p).length ≤ out.length + 1 := by
  unfold putAt tailAt
  rw [List.length_append, List.length_append, List.length_singleton, List.length_take]
  cases (out[p]?).any (fun x => keyB x c)
  · rw [cond_false, List.length_drop]; omega
  · rw [cond_true, List.length_drop]; omega
theorem putAt_mem {out : List TRule} {c x : TRule} {p : Nat} (h : x ∈ putAt out c p) : x ∈ out ∨ x = c := by
  unfold putAt at h
  rcases List.mem_append.1 h with h | h
  · rcases List.mem_append.1 h with h | h
    · exact .inl (List.mem_of_mem_take h)
    · exact .inr (List.mem_singleton.1 h)
  · exact .inl ((tailAt_sub out c p).subset h)
end Go.Proofs.YtgfnkigoaajllaaGreat
