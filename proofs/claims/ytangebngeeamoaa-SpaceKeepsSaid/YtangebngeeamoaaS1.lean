/- Plain laws on lists of cubes: searching, leaving out, what lies twice. -/
import Derived.Test.YtangebngeeamoaaE6
set_option linter.unusedVariables false
set_option linter.unusedSimpArgs false
set_option maxRecDepth 100000
namespace Go.Proofs.Ytangebngeeamoaa
open Go.RowKit Go.Pod

instance : DecidableEq TCube := fun a b => decidable_of_iff _ (cellsEq_cube a b)
theorem cellsEq_dec (a b : TCube) : cellsEq (TCube.enc a) (TCube.enc b) = decide (a = b) := by
  rw [Bool.eq_iff_iff, cellsEq_cube, decide_eq_true_eq]
theorem IndexFunc_l0 (k : Nat) {xs : List TCube} {p : TCube → Option Bool} {q : TCube → Bool} (hq : ∀ x ∈ xs, p x = some (q x)) (hl : xs.length < 2 ^ 62) : ∀ (r n m : Nat), n + r = xs.length → r < m →
    slices_IndexFunc_Cube.l0 k xs p m (n : Int) = some (match (xs.drop n).findIdx? q with | some i => .ret ((n + i : Nat) : Int) | none => .brk ())
  | r, n, 0, _, h => by omega
  | 0, n, m + 1, hn, _ => by
    rw [slices_IndexFunc_Cube.l0, if_neg (by simp only [decide_eq_true_eq]; omega), List.drop_eq_nil_of_le (by omega)]; rfl
  | r + 1, n, m + 1, hn, hm => by
    have h : n < xs.length := by omega
    rw [slices_IndexFunc_Cube.l0, if_pos (by simp only [decide_eq_true_eq]; omega), idx_nat h, Option.bind_some, hq _ (List.getElem_mem h), Option.bind_some, List.drop_eq_getElem_cons h, List.findIdx?_cons]
    cases hb : q xs[n]
    · simp only [Bool.false_eq_true, if_false]
      rw [inc n (by omega), IndexFunc_l0 k hq hl r (n + 1) m (by omega) (by omega)]
      cases (xs.drop (n + 1)).findIdx? q with
      | none => rfl
      | some i => simp only [Option.map_some]; rw [show n + 1 + i = n + (i + 1) by omega]
    · simp
theorem IndexFunc_at {k : Nat} {xs : List TCube} {p : TCube → Option Bool} {q : TCube → Bool} (hq : ∀ x ∈ xs, p x = some (q x)) (hl : xs.length < 2 ^ 62) (hk : xs.length < k) :
    slices_IndexFunc_Cube k xs p = some (match xs.findIdx? q with | some i => (i : Int) | none => -1) := by
  unfold slices_IndexFunc_Cube
  have := IndexFunc_l0 k hq hl xs.length 0 k (by omega) (by omega)
  rw [show ((0 : Nat) : Int) = 0 from rfl, List.drop_zero] at this
  rw [this, Option.bind_some]
  cases xs.findIdx? q with
  | none => rfl
  | some i => simp only [Nat.zero_add]
theorem ContainsFunc_at {k : Nat} {xs : List TCube} {p : TCube → Option Bool} {q : TCube → Bool} (hq : ∀ x ∈ xs, p x = some (q x)) (hl : xs.length < 2 ^ 62) (hk : xs.length < k) :
    slices_ContainsFunc_Cube k xs p = some (xs.any q) := by
  unfold slices_ContainsFunc_Cube
  rw [IndexFunc_at hq hl hk, Option.bind_some]
  congr 1
  cases h : xs.findIdx? q with
  | none =>
    rw [List.findIdx?_eq_none_iff] at h
    have : xs.any q = false := by rw [List.any_eq_false]; intro x hx; rw [h x hx]; simp
    rw [this]; rfl
  | some i =>
    rw [List.findIdx?_eq_some_iff_getElem] at h
    obtain ⟨hi, hp, _⟩ := h
    have : xs.any q = true := List.any_eq_true.2 ⟨_, List.getElem_mem hi, hp⟩
    rw [this]
    simp
theorem DeleteFunc_l0 (k : Nat) {xs : List TCube} {p : TCube → Option Bool} {q : TCube → Bool} (hq : ∀ x ∈ xs, p x = some (q x)) (hl : xs.length < 2 ^ 62) : ∀ (s n m w : Nat) (cur : List TCube), n + s = xs.length → s < m →
    cur.length = xs.length → w ≤ n → cur.take w = (xs.take n).filter (fun x => !q x) → cur.drop n = xs.drop n →
    ∃ (cur' : List TCube) (w' : Nat), slices_DeleteFunc_Cube.l0 k p m cur (w : Int) (n : Int) = some (cur', (w' : Int)) ∧ w' ≤ cur'.length ∧ cur'.take w' = xs.filter (fun x => !q x)
  | s, n, 0, _, _, _, h, _, _, _, _ => by omega
  | 0, n, m + 1, w, cur, hn, _, hc, hw, ht, hd => by
    refine ⟨cur, w, ?_, by omega, ?_⟩
    · rw [slices_DeleteFunc_Cube.l0, if_neg (by simp only [decide_eq_true_eq]; omega)]
    · rw [ht, List.take_of_length_le (by omega)]
  | s + 1, n, m + 1, w, cur, hn, hm, hc, hw, ht, hd => by
    have h : n < xs.length := by omega
    have h' : n < cur.length := by omega
    have hw' : w < cur.length := by omega
    have e : cur[n] = xs[n] := by
      have h1 : (cur.drop n)[0]? = (xs.drop n)[0]? := by rw [hd]
      rw [List.getElem?_drop, List.getElem?_drop, Nat.add_zero, List.getElem?_eq_getElem h', List.getElem?_eq_getElem h] at h1
      exact Option.some.inj h1
    rw [slices_DeleteFunc_Cube.l0, if_pos (by simp only [decide_eq_true_eq]; omega), idx_nat h', Option.bind_some, e, hq _ (List.getElem_mem h), Option.bind_some]
    have htk : (xs.take (n + 1)).filter (fun x => !q x) = (xs.take n).filter (fun x => !q x) ++ (if q xs[n] then [] else [xs[n]]) := by
      rw [List.take_add_one, List.getElem?_eq_getElem h, List.filter_append]
      cases hb : q xs[n] <;> simp [hb]
    have hdd : ∀ c : List TCube, c.drop n = xs.drop n → c.drop (n + 1) = xs.drop (n + 1) := fun c hc' => by
      rw [← List.drop_drop, hc', List.drop_drop]
    cases hb : q xs[n]
    · simp only [Bool.not_false, if_true]
      rw [idx_nat hw']
      simp only [Option.bind_some, Int.toNat_natCast]
      rw [inc w (by omega), inc n (by omega)]
      refine DeleteFunc_l0 k hq hl s (n + 1) m (w + 1) (cur.set w xs[n]) (by omega) (by omega) (by simpa using hc) (by omega) ?_ ?_
      · rw [htk, hb, ← ht, List.take_add_one, List.getElem?_set, if_pos rfl, if_pos hw']
        simp only [Bool.false_eq_true, if_false, Option.toList_some]
        congr 1
        rw [List.take_set_of_le (Nat.le_refl _)]
      · rw [List.drop_set_of_lt (by omega)]; exact hdd _ hd
    · simp only [Bool.not_true, Bool.false_eq_true, if_false, Option.bind_some]
      rw [inc n (by omega)]
      refine DeleteFunc_l0 k hq hl s (n + 1) m w cur (by omega) (by omega) hc (by omega) ?_ (hdd _ hd)
      rw [htk, hb, ← ht]; simp
theorem filter_keep {α : Type} {q : α → Bool} : ∀ {l : List α}, (∀ x ∈ l, q x = true) → l.filter q = l := fun h => List.filter_eq_self.2 h
theorem DeleteFunc_at {k : Nat} {xs : List TCube} {p : TCube → Option Bool} {q : TCube → Bool} (hq : ∀ x ∈ xs, p x = some (q x)) (hl : xs.length < 2 ^ 62) (hk : xs.length < k) :
    slices_DeleteFunc_Cube k xs p = some (xs.filter fun x => !q x) := by
  unfold slices_DeleteFunc_Cube
  rw [IndexFunc_at hq hl hk, Option.bind_some]
  cases h : xs.findIdx? q with
  | none =>
    rw [List.findIdx?_eq_none_iff] at h
    simp only [beq_self_eq_true, if_true]
    rw [filter_keep fun x hx => by rw [h x hx]; rfl]
  | some i =>
    rw [List.findIdx?_eq_some_iff_getElem] at h
    obtain ⟨hi, hp, hlt⟩ := h
    simp only
    rw [if_neg (by simp), inc i (by omega)]
    obtain ⟨cur', w', h1, h2, h3⟩ := DeleteFunc_l0 k hq hl (xs.length - (i + 1)) (i + 1) k i xs (by omega) (by omega) rfl (by omega) (by
      rw [List.take_add_one, List.getElem?_eq_getElem hi, List.filter_append]
      simp only [Option.toList_some, List.filter_cons, hp, Bool.not_true, Bool.false_eq_true, if_false, List.filter_nil, List.append_nil]
      rw [filter_keep]
      intro x hx
      obtain ⟨j, hj, rfl⟩ := List.mem_iff_getElem.1 hx
      rw [List.length_take] at hj
      rw [List.getElem_take]
      have := hlt j (by omega)
      simpa using this) rfl
    rw [h1, Option.bind_some]
    simp only
    rw [if_pos (by omega), Int.toNat_natCast, h3]

/-- One of each run of equals, the first n looked at. -/
def DD (xs : List TCube) : Nat → List TCube
  | 0 => []
  | n + 1 => DD xs n ++ (if 0 < n ∧ xs[n]? = xs[n - 1]? then [] else xs[n]?.toList)
theorem DD_len (xs : List TCube) : ∀ n, (DD xs n).length ≤ n
  | 0 => Nat.le_refl _
  | n + 1 => by
    have := DD_len xs n
    rw [DD, List.length_append]
    split
    · simp; omega
    · cases xs[n]? <;> simp <;> omega
theorem DD_mem (xs : List TCube) (x : TCube) : ∀ n, n ≤ xs.length → (x ∈ DD xs n ↔ x ∈ xs.take n)
  | 0, _ => by simp [DD]
  | n + 1, h => by
    have h' : n < xs.length := by omega
    rw [DD, List.mem_append, DD_mem xs x n (by omega), List.take_add_one, List.mem_append, List.getElem?_eq_getElem h']
    by_cases he : 0 < n ∧ some xs[n] = xs[n - 1]?
    · rw [if_pos he]
      have h2 : n - 1 < xs.length := by omega
      have e := he.2
      rw [List.getElem?_eq_getElem h2, Option.some.injEq] at e
      simp only [List.not_mem_nil, or_false, Option.toList_some, List.mem_singleton]
      constructor
      · exact .inl
      · rintro (h3 | h3)
        · exact h3
        · subst h3
          rw [e]
          exact List.mem_take_iff_getElem.2 ⟨n - 1, by omega, rfl⟩
    · rw [if_neg he]
theorem Compact_l1 (k : Nat) {xs : List TCube} (hl : xs.length < 2 ^ 62) {b : Nat} : ∀ (s n m w : Nat) (cur : List TCube), b + n + s = xs.length → s < m → 0 < n →
    cur.length = xs.length → w ≤ b + n - 1 → cur.take w = DD xs (b + n) → cur.drop (b + n - 1) = xs.drop (b + n - 1) →
    ∃ (cur' : List TCube) (w' : Nat), slices_Compact_Cube.l1 k (b : Int) m cur (w : Int) (n : Int) = some (cur', (w' : Int)) ∧ w' ≤ cur'.length ∧ cur'.take w' = DD xs xs.length
  | s, n, 0, _, _, _, h, _, _, _, _, _ => by omega
  | 0, n, m + 1, w, cur, hn, _, h0, hc, hw, ht, hd => by
    refine ⟨cur, w, ?_, by omega, ?_⟩
    · rw [slices_Compact_Cube.l1, if_neg (by simp only [decide_eq_true_eq, Int.toNat_natCast]; omega)]
    · rw [ht, show b + n = xs.length by omega]
  | s + 1, n, m + 1, w, cur, hn, hm, h0, hc, hw, ht, hd => by
    have h1 : b + n < xs.length := by omega
    have h2 : b + n - 1 < xs.length := by omega
    have g : ∀ j, b + n - 1 ≤ j → cur[j]? = xs[j]? := fun j hj => by
      have : (cur.drop (b + n - 1))[j - (b + n - 1)]? = (xs.drop (b + n - 1))[j - (b + n - 1)]? := by rw [hd]
      rw [List.getElem?_drop, List.getElem?_drop, show b + n - 1 + (j - (b + n - 1)) = j by omega] at this
      exact this
    have hdl : (cur.drop b).length = xs.length - b := by rw [List.length_drop, hc]
    have e1 : idx (cur.drop b) (n : Int) = some xs[b + n] := by
      rw [idx_nat (by omega), ← List.getElem?_eq_getElem, List.getElem?_drop, g _ (by omega), List.getElem?_eq_getElem h1]
    have e2 : idx (cur.drop b) (IntKind.i64.wrap ((n : Int) - 1)) = some (xs[b + n - 1]) := by
      rw [wrapI (by omega) (by omega), show (n : Int) - 1 = ((n - 1 : Nat) : Int) by omega, idx_nat (by omega), ← List.getElem?_eq_getElem, List.getElem?_drop, show b + (n - 1) = b + n - 1 by omega, g _ (by omega), List.getElem?_eq_getElem h2]
    have hw' : w < cur.length := by omega
    rw [slices_Compact_Cube.l1, if_pos (by simp only [decide_eq_true_eq, Int.toNat_natCast]; omega), Int.toNat_natCast, e1, Option.bind_some, e2, Option.bind_some]
    have hDD : DD xs (b + (n + 1)) = DD xs (b + n) ++ (if xs[b + n] = xs[b + n - 1] then [] else [xs[b + n]]) := by
      rw [show b + (n + 1) = b + n + 1 by omega, DD, List.getElem?_eq_getElem h1, List.getElem?_eq_getElem h2]
      congr 1
      by_cases e : xs[b + n] = xs[b + n - 1]
      · rw [if_pos ⟨by omega, by rw [e]⟩, if_pos e]
      · rw [if_neg (fun h => e (Option.some.inj h.2)), if_neg e]; rfl
    have hdrop : ∀ c : List TCube, c.drop (b + n - 1) = xs.drop (b + n - 1) → c.drop (b + (n + 1) - 1) = xs.drop (b + (n + 1) - 1) := fun c hc' => by
      rw [show b + (n + 1) - 1 = (b + n - 1) + 1 by omega, ← List.drop_drop, hc', List.drop_drop]
    cases hb : cellsEq (TCube.enc xs[b + n]) (TCube.enc xs[b + n - 1])
    · have hne : ¬ xs[b + n] = xs[b + n - 1] := fun h => by rw [(cellsEq_cube _ _).2 h] at hb; cases hb
      simp only [Bool.not_false, if_true]
      rw [idx_nat hw']
      simp only [Option.bind_some, Int.toNat_natCast]
      rw [inc w (by omega), inc n (by omega)]
      refine Compact_l1 k hl s (n + 1) m (w + 1) _ (by omega) (by omega) (by omega) (by simpa using hc) (by omega) ?_ ?_
      · rw [hDD, if_neg hne, ← ht, List.take_add_one, List.getElem?_set, if_pos rfl, if_pos hw']
        simp only [Option.toList_some]
        congr 1
        rw [List.take_set_of_le (Nat.le_refl _)]
      · rw [show b + (n + 1) - 1 = b + n by omega, List.drop_set_of_lt (by omega)]
        have := hdrop cur hd
        rwa [show b + (n + 1) - 1 = b + n by omega] at this
    · have he := (cellsEq_cube _ _).1 hb
      simp only [Bool.not_true, Bool.false_eq_true, if_false, Option.bind_some]
      rw [inc n (by omega)]
      refine Compact_l1 k hl s (n + 1) m w cur (by omega) (by omega) (by omega) hc (by omega) ?_ (hdrop _ hd)
      rw [hDD, if_pos he, ← ht, List.append_nil]
theorem Compact_l0 {k : Nat} {xs : List TCube} (hl : xs.length < 2 ^ 62) (hk : xs.length < k) : ∀ (s n m : Nat), n + s = xs.length → s < m → 0 < n → xs.take n = DD xs n →
    ∃ o, slices_Compact_Cube.l0 k xs m (n : Int) = some o ∧ (match o with | .ret r => r | .brk _ => xs) = DD xs xs.length
  | s, n, 0, _, h, _, _ => by omega
  | 0, n, m + 1, hn, _, h0, ht => by
    refine ⟨.brk (), ?_, ?_⟩
    · rw [slices_Compact_Cube.l0, if_neg (by simp only [decide_eq_true_eq]; omega)]
    · show xs = _
      rw [show xs.length = n by omega, ← ht, List.take_of_length_le (by omega)]
  | s + 1, n, m + 1, hn, hm, h0, ht => by
    have h1 : n < xs.length := by omega
    have h2 : n - 1 < xs.length := by omega
    rw [slices_Compact_Cube.l0, if_pos (by simp only [decide_eq_true_eq]; omega), idx_nat h1, Option.bind_some, wrapI (by omega) (by omega), show (n : Int) - 1 = ((n - 1 : Nat) : Int) by omega, idx_nat h2, Option.bind_some]
    have hDD : DD xs (n + 1) = DD xs n ++ (if xs[n] = xs[n - 1] then [] else [xs[n]]) := by
      rw [DD, List.getElem?_eq_getElem h1, List.getElem?_eq_getElem h2]
      congr 1
      by_cases e : xs[n] = xs[n - 1]
      · rw [if_pos ⟨by omega, by rw [e]⟩, if_pos e]
      · rw [if_neg (fun h => e (Option.some.inj h.2)), if_neg e]; rfl
    cases hb : cellsEq (TCube.enc xs[n]) (TCube.enc xs[n - 1])
    · have hne : ¬ xs[n] = xs[n - 1] := fun h => by rw [(cellsEq_cube _ _).2 h] at hb; cases hb
      simp only [Bool.false_eq_true, if_false]
      rw [inc n (by omega)]
      refine Compact_l0 hl hk s (n + 1) m (by omega) (by omega) (by omega) ?_
      rw [hDD, if_neg hne, ← ht, List.take_add_one, List.getElem?_eq_getElem h1]; rfl
    · have he := (cellsEq_cube _ _).1 hb
      simp only [if_true]
      rw [if_pos (by omega)]
      obtain ⟨cur', w', e1, e2, e3⟩ := Compact_l1 k hl (b := n) s 1 k n xs (by omega) (by omega) (by omega) rfl (by omega) (by rw [hDD, if_pos he, List.append_nil, ht]) rfl
      rw [show ((1 : Nat) : Int) = 1 from rfl] at e1
      rw [e1, Option.bind_some]
      simp only
      rw [if_pos (by omega), Int.toNat_natCast]
      exact ⟨_, rfl, e3⟩
theorem Compact_at {k : Nat} {xs : List TCube} (hl : xs.length < 2 ^ 62) (hk : xs.length < k) : slices_Compact_Cube k xs = some (DD xs xs.length) := by
  unfold slices_Compact_Cube
  by_cases h : xs.length < 2
  · rw [if_pos (by simp only [decide_eq_true_eq]; omega)]
    match xs, h with
    | [], _ => rfl
    | [x], _ => rfl
    | _ :: _ :: _, h => simp at h; omega
  · rw [if_neg (by simp only [decide_eq_true_eq]; omega)]
    obtain ⟨o, h1, h2⟩ := Compact_l0 hl hk (xs.length - 1) 1 k (by omega) (by omega) (by omega) (by
      rw [List.take_add_one, DD, DD]; simp)
    rw [show ((1 : Nat) : Int) = 1 from rfl] at h1
    rw [h1, Option.bind_some]
    cases o with
    | ret r => simp only at h2 ⊢; rw [h2]
    | brk u => simp only at h2 ⊢; rw [← h2]
end Go.Proofs.Ytangebngeeamoaa
