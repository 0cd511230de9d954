/- Plain laws on numbers in order: the units of changes. -/
import Derived.Test.YtangebngeeamoaaQ3
import Derived.Test.YtangebngeeamoaaL18
set_option linter.unusedVariables false
set_option linter.unusedSimpArgs false
set_option maxRecDepth 100000
namespace Go.Proofs.Ytangebngeeamoaa
open Go.RowKit Go.Pod

/-- Two rows in order with the same numbers are one. -/
theorem sorted_oneI : ∀ (xs ys : List Int), xs.Pairwise (· < ·) → ys.Pairwise (· < ·) → (∀ x, x ∈ xs ↔ x ∈ ys) → xs = ys
  | [], ys, _, _, h => by
    cases ys with
    | nil => rfl
    | cons y ys => exact absurd ((h y).2 (by simp)) (by simp)
  | x :: xs, [], _, _, h => absurd ((h x).1 (by simp)) (by simp)
  | x :: xs, y :: ys, h1, h2, h => by
    rw [List.pairwise_cons] at h1 h2
    have e : x = y := by
      rcases List.mem_cons.1 ((h x).1 (by simp)) with h3 | h3
      · exact h3
      · rcases List.mem_cons.1 ((h y).2 (by simp)) with h4 | h4
        · exact h4.symm
        · have := h1.1 _ h4
          have := h2.1 _ h3
          omega
    subst e
    rw [sorted_oneI xs ys h1.2 h2.2]
    intro z
    constructor
    · intro hz
      rcases List.mem_cons.1 ((h z).1 (List.mem_cons_of_mem _ hz)) with h3 | h3
      · subst h3
        have := h1.1 _ hz
        omega
      · exact h3
    · intro hz
      rcases List.mem_cons.1 ((h z).2 (List.mem_cons_of_mem _ hz)) with h3 | h3
      · subst h3
        have := h2.1 _ hz
        omega
      · exact h3
/-- One of each run of equals, the first n looked at. -/
def DDI (xs : List Int) : Nat → List Int
  | 0 => []
  | n + 1 => DDI xs n ++ (if 0 < n ∧ xs[n]? = xs[n - 1]? then [] else xs[n]?.toList)
theorem DDI_len (xs : List Int) : ∀ n, (DDI xs n).length ≤ n
  | 0 => Nat.le_refl _
  | n + 1 => by
    have := DDI_len xs n
    rw [DDI, List.length_append]
    split
    · simp; omega
    · cases xs[n]? <;> simp <;> omega
theorem DDI_mem (xs : List Int) (x : Int) : ∀ n, n ≤ xs.length → (x ∈ DDI xs n ↔ x ∈ xs.take n)
  | 0, _ => by simp [DDI]
  | n + 1, h => by
    have h' : n < xs.length := by omega
    rw [DDI, List.mem_append, DDI_mem xs x n (by omega), List.take_add_one, List.mem_append, List.getElem?_eq_getElem h']
    by_cases he : 0 < n ∧ some xs[n] = xs[n - 1]?
    · rw [if_pos he]
      have h2 : n - 1 < xs.length := by omega
      have e := he.2
      rw [List.getElem?_eq_getElem h2, Option.some.injEq] at e
      simp only [List.not_mem_nil, or_false, Option.toList_some, List.mem_singleton]
      constructor
      · exact .inl
      · rintro (h3 | h3)
        · exact h3
        · subst h3
          rw [e]
          exact List.mem_take_iff_getElem.2 ⟨n - 1, by omega, rfl⟩
    · rw [if_neg he]
theorem CompactI_l1 (k : Nat) {xs : List Int} (hl : xs.length < 2 ^ 62) {b : Nat} : ∀ (s n m w : Nat) (cur : List Int), b + n + s = xs.length → s < m → 0 < n →
    cur.length = xs.length → w ≤ b + n - 1 → cur.take w = DDI xs (b + n) → cur.drop (b + n - 1) = xs.drop (b + n - 1) →
    ∃ (cur' : List Int) (w' : Nat), slices_Compact_int.l1 k (b : Int) m cur (w : Int) (n : Int) = some (cur', (w' : Int)) ∧ w' ≤ cur'.length ∧ cur'.take w' = DDI xs xs.length
  | s, n, 0, _, _, _, h, _, _, _, _, _ => by omega
  | 0, n, m + 1, w, cur, hn, _, h0, hc, hw, ht, hd => by
    refine ⟨cur, w, ?_, by omega, ?_⟩
    · rw [slices_Compact_int.l1, if_neg (by simp only [decide_eq_true_eq, Int.toNat_natCast]; omega)]
    · rw [ht, show b + n = xs.length by omega]
  | s + 1, n, m + 1, w, cur, hn, hm, h0, hc, hw, ht, hd => by
    have h1 : b + n < xs.length := by omega
    have h2 : b + n - 1 < xs.length := by omega
    have g : ∀ j, b + n - 1 ≤ j → cur[j]? = xs[j]? := fun j hj => by
      have : (cur.drop (b + n - 1))[j - (b + n - 1)]? = (xs.drop (b + n - 1))[j - (b + n - 1)]? := by rw [hd]
      rw [List.getElem?_drop, List.getElem?_drop, show b + n - 1 + (j - (b + n - 1)) = j by omega] at this
      exact this
    have hdl : (cur.drop b).length = xs.length - b := by rw [List.length_drop, hc]
    have e1 : idx (cur.drop b) (n : Int) = some xs[b + n] := by
      rw [idx_nat (by omega), ← List.getElem?_eq_getElem, List.getElem?_drop, g _ (by omega), List.getElem?_eq_getElem h1]
    have e2 : idx (cur.drop b) (IntKind.i64.wrap ((n : Int) - 1)) = some (xs[b + n - 1]) := by
      rw [wrapI (by omega) (by omega), show (n : Int) - 1 = ((n - 1 : Nat) : Int) by omega, idx_nat (by omega), ← List.getElem?_eq_getElem, List.getElem?_drop, show b + (n - 1) = b + n - 1 by omega, g _ (by omega), List.getElem?_eq_getElem h2]
    have hw' : w < cur.length := by omega
    rw [slices_Compact_int.l1, if_pos (by simp only [decide_eq_true_eq, Int.toNat_natCast]; omega), Int.toNat_natCast, e1, Option.bind_some, e2, Option.bind_some]
    have hDD : DDI xs (b + (n + 1)) = DDI xs (b + n) ++ (if xs[b + n] = xs[b + n - 1] then [] else [xs[b + n]]) := by
      rw [show b + (n + 1) = b + n + 1 by omega, DDI, List.getElem?_eq_getElem h1, List.getElem?_eq_getElem h2]
      congr 1
      by_cases e : xs[b + n] = xs[b + n - 1]
      · rw [if_pos ⟨by omega, by rw [e]⟩, if_pos e]
      · rw [if_neg (fun h => e (Option.some.inj h.2)), if_neg e]; rfl
    have hdrop : ∀ c : List Int, c.drop (b + n - 1) = xs.drop (b + n - 1) → c.drop (b + (n + 1) - 1) = xs.drop (b + (n + 1) - 1) := fun c hc' => by
      rw [show b + (n + 1) - 1 = (b + n - 1) + 1 by omega, ← List.drop_drop, hc', List.drop_drop]
    by_cases he : xs[b + n] = xs[b + n - 1]
    · rw [if_neg (by simp [he])]
      simp only [Option.bind_some]
      rw [inc n (by omega)]
      refine CompactI_l1 k hl s (n + 1) m w cur (by omega) (by omega) (by omega) hc (by omega) ?_ (hdrop _ hd)
      rw [hDD, if_pos he, ← ht, List.append_nil]
    · rw [if_pos (by simpa using he), idx_nat hw']
      simp only [Option.bind_some, Int.toNat_natCast]
      rw [inc w (by omega), inc n (by omega)]
      refine CompactI_l1 k hl s (n + 1) m (w + 1) _ (by omega) (by omega) (by omega) (by simpa using hc) (by omega) ?_ ?_
      · rw [hDD, if_neg he, ← ht, List.take_add_one, List.getElem?_set, if_pos rfl, if_pos hw']
        simp only [Option.toList_some]
        congr 1
        rw [List.take_set_of_le (Nat.le_refl _)]
      · rw [show b + (n + 1) - 1 = b + n by omega, List.drop_set_of_lt (by omega)]
        have := hdrop cur hd
        rwa [show b + (n + 1) - 1 = b + n by omega] at this
theorem CompactI_l0 {k : Nat} {xs : List Int} (hl : xs.length < 2 ^ 62) (hk : xs.length < k) : ∀ (s n m : Nat), n + s = xs.length → s < m → 0 < n → xs.take n = DDI xs n →
    ∃ o, slices_Compact_int.l0 k xs m (n : Int) = some o ∧ (match o with | .ret r => r | .brk _ => xs) = DDI xs xs.length
  | s, n, 0, _, h, _, _ => by omega
  | 0, n, m + 1, hn, _, h0, ht => by
    refine ⟨.brk (), ?_, ?_⟩
    · rw [slices_Compact_int.l0, if_neg (by simp only [decide_eq_true_eq]; omega)]
    · show xs = _
      rw [show xs.length = n by omega, ← ht, List.take_of_length_le (by omega)]
  | s + 1, n, m + 1, hn, hm, h0, ht => by
    have h1 : n < xs.length := by omega
    have h2 : n - 1 < xs.length := by omega
    rw [slices_Compact_int.l0, if_pos (by simp only [decide_eq_true_eq]; omega), idx_nat h1, Option.bind_some, wrapI (by omega) (by omega), show (n : Int) - 1 = ((n - 1 : Nat) : Int) by omega, idx_nat h2, Option.bind_some]
    have hDD : DDI xs (n + 1) = DDI xs n ++ (if xs[n] = xs[n - 1] then [] else [xs[n]]) := by
      rw [DDI, List.getElem?_eq_getElem h1, List.getElem?_eq_getElem h2]
      congr 1
      by_cases e : xs[n] = xs[n - 1]
      · rw [if_pos ⟨by omega, by rw [e]⟩, if_pos e]
      · rw [if_neg (fun h => e (Option.some.inj h.2)), if_neg e]; rfl
    by_cases he : xs[n] = xs[n - 1]
    · rw [if_pos (by simpa using he), if_pos (by omega)]
      obtain ⟨cur', w', e1, e2, e3⟩ := CompactI_l1 k hl (b := n) s 1 k n xs (by omega) (by omega) (by omega) rfl (by omega) (by rw [hDD, if_pos he, List.append_nil, ht]) rfl
      rw [show ((1 : Nat) : Int) = 1 from rfl] at e1
      rw [e1, Option.bind_some]
      simp only
      rw [if_pos (by omega), Int.toNat_natCast]
      exact ⟨_, rfl, e3⟩
    · rw [if_neg (by simpa using he), inc n (by omega)]
      refine CompactI_l0 hl hk s (n + 1) m (by omega) (by omega) (by omega) ?_
      rw [hDD, if_neg he, ← ht, List.take_add_one, List.getElem?_eq_getElem h1]; rfl
theorem CompactI_at {k : Nat} {xs : List Int} (hl : xs.length < 2 ^ 62) (hk : xs.length < k) : slices_Compact_int k xs = some (DDI xs xs.length) := by
  unfold slices_Compact_int
  by_cases h : xs.length < 2
  · rw [if_pos (by simp only [decide_eq_true_eq]; omega)]
    match xs, h with
    | [], _ => rfl
    | [x], _ => rfl
    | _ :: _ :: _, h => simp at h; omega
  · rw [if_neg (by simp only [decide_eq_true_eq]; omega)]
    obtain ⟨o, h1, h2⟩ := CompactI_l0 hl hk (xs.length - 1) 1 k (by omega) (by omega) (by omega) (by
      rw [List.take_add_one, DDI, DDI]; simp)
    rw [show ((1 : Nat) : Int) = 1 from rfl] at h1
    rw [h1, Option.bind_some]
    cases o with
    | ret r => simp only at h2 ⊢; rw [h2]
    | brk u => simp only at h2 ⊢; rw [← h2]
theorem DDI_sorted {xs : List Int} (h : xs.Pairwise (· ≤ ·)) : ∀ n, n ≤ xs.length → (DDI xs n).Pairwise (· < ·)
  | 0, _ => by rw [DDI]; exact List.Pairwise.nil
  | n + 1, hn => by
    have h1 : n < xs.length := by omega
    rw [DDI, List.getElem?_eq_getElem h1, List.pairwise_append]
    refine ⟨DDI_sorted h n (by omega), ?_, fun y hy z hz => ?_⟩
    · split <;> simp
    · split at hz
      · cases hz
      · rename_i hne
        simp only [Option.toList_some, List.mem_singleton] at hz
        subst hz
        rw [DDI_mem xs y n (by omega), List.mem_take_iff_getElem] at hy
        obtain ⟨j, hj, rfl⟩ := hy
        have h2 : n - 1 < xs.length := by omega
        have hne' : xs[n - 1] ≠ xs[n] := fun e => hne ⟨by omega, by rw [List.getElem?_eq_getElem h2, e]⟩
        have hp := List.pairwise_iff_getElem.1 h
        have h3 := hp (n - 1) n h2 h1 (by omega)
        rcases Nat.lt_or_ge j (n - 1) with h5 | h5
        · have := hp j (n - 1) (by omega) h2 h5
          omega
        · obtain rfl : j = n - 1 := by omega
          omega
/-! ### The program's units -/
def unitsC (l : List TChange) : List Int := DDI ((l.map fun c => c.Unit).mergeSort fun x y => decide (x ≤ y)) ((l.map fun c => c.Unit).mergeSort fun x y => decide (x ≤ y)).length
theorem mem_unitsC {l : List TChange} {x : Int} : x ∈ unitsC l ↔ ∃ c ∈ l, c.Unit = x := by
  unfold unitsC
  rw [DDI_mem _ _ _ (Nat.le_refl _), List.take_length, (List.mergeSort_perm _ _).mem_iff, List.mem_map]
theorem unitsC_sorted (l : List TChange) : (unitsC l).Pairwise (· < ·) := by
  refine DDI_sorted ?_ _ (Nat.le_refl _)
  have := List.pairwise_mergeSort (le := fun x y : Int => decide (x ≤ y)) (fun a b c h1 h2 => by
    simp only [decide_eq_true_eq] at *; omega) (fun a b => by
    simp only [Bool.or_eq_true, decide_eq_true_eq]; omega) (l.map fun c => c.Unit)
  exact this.imp fun h => by simpa using h
theorem unitsC_len (l : List TChange) : (unitsC l).length ≤ l.length := by
  unfold unitsC
  refine Nat.le_trans (DDI_len _ _) ?_
  rw [List.length_mergeSort, List.length_map]
  exact Nat.le_refl _
theorem Units_l0 (k : Nat) {l : List TChange} (hl2 : l.length ≤ 100000) : ∀ (r n m : Nat) (out : List Int), n + r = l.length → r < m → out.length ≤ n →
    region_Units.l0 k l m out (n : Int) = some (out ++ (l.drop n).map fun c => c.Unit)
  | r, n, 0, _, _, h, _ => by omega
  | 0, n, m + 1, out, hn, _, _ => by
    rw [region_Units.l0, if_neg (by simp only [decide_eq_true_eq]; omega), List.drop_eq_nil_of_le (by omega)]
    simp
  | r + 1, n, m + 1, out, hn, hm, ho => by
    have h : n < l.length := by omega
    rw [region_Units.l0, if_pos (by simp only [decide_eq_true_eq]; omega), idx_nat h, Option.bind_some, app_some (by rw [List.length_singleton]; omega), Option.bind_some, inc n (by omega),
      Units_l0 k hl2 r (n + 1) m _ (by omega) (by omega) (by rw [List.length_append, List.length_singleton]; omega), List.drop_eq_getElem_cons h, List.map_cons, List.append_assoc]
    rfl
theorem region_Units_at {k : Nat} {l : List TChange} (hk : l.length < k) (hl2 : l.length ≤ 100000) : region_Units k l = some (unitsC l) := by
  unfold region_Units
  have h0 := Units_l0 k hl2 l.length 0 k [] (by omega) hk (by simp)
  rw [show ((0 : Nat) : Int) = 0 from rfl, List.drop_zero, List.nil_append] at h0
  rw [h0, Option.bind_some]
  unfold slices_Sort_int sortI
  rw [if_pos (by rw [List.length_map]; omega), Option.bind_some, CompactI_at (by rw [List.length_mergeSort, List.length_map]; omega) (by rw [List.length_mergeSort, List.length_map]; omega), Option.bind_some]
  rfl
/-! ### The document's units -/
theorem refUnits_l1 (k : Nat) {l : List TChange} {out : List Int} {i : Nat} (hi : i < l.length) (hol : out.length < 2 ^ 60) : ∀ (r n m : Nat), n + r = out.length → r < m → (∀ y ∈ out.take n, y < l[i].Unit) →
    ∃ p : Nat, ref19_Units.l1 k l out (i : Int) m (n : Int) = some (p : Int) ∧ p ≤ out.length ∧ (∀ y ∈ out.take p, y < l[i].Unit) ∧ ∀ y, out[p]? = some y → ¬ y < l[i].Unit
  | r, n, 0, _, h, _ => by omega
  | 0, n, m + 1, hn, _, ht => by
    rw [ref19_Units.l1, if_neg (by simp only [decide_eq_true_eq]; omega)]
    refine ⟨n, by simp, by omega, ht, fun y hy => ?_⟩
    rw [List.getElem?_eq_none (by omega)] at hy
    cases hy
  | r + 1, n, m + 1, hn, hm, ht => by
    have h : n < out.length := by omega
    rw [ref19_Units.l1, if_pos (by simp only [decide_eq_true_eq]; omega), idx_nat h, Option.bind_some, idx_nat hi, Option.bind_some, Option.bind_some, inc n (by omega)]
    by_cases hlt : out[n] < l[i].Unit
    · rw [if_pos (by simpa using hlt)]
      refine refUnits_l1 k hi hol r (n + 1) m (by omega) (by omega) fun y hy => ?_
      rw [List.take_add_one, List.getElem?_eq_getElem h] at hy
      rcases List.mem_append.1 hy with hy | hy
      · exact ht y hy
      · have : y = out[n] := by simpa using hy
        rw [this]; exact hlt
    · rw [if_neg (by simpa using hlt)]
      refine ⟨n, rfl, by omega, ht, fun y hy => ?_⟩
      rw [List.getElem?_eq_getElem h] at hy
      cases hy
      exact hlt
theorem refUnits_l0 (k : Nat) {l : List TChange} (hl2 : l.length ≤ 100000) (hlk : l.length < k) : ∀ (r n m : Nat) (out : List Int), n + r = l.length → r < m → out.length ≤ n → out.Pairwise (· < ·) → (∀ x, x ∈ out ↔ ∃ c ∈ l.take n, c.Unit = x) →
    ∃ o, ref19_Units.l0 k l m out (n : Int) = some o ∧ o.Pairwise (· < ·) ∧ (∀ x, x ∈ o ↔ ∃ c ∈ l, c.Unit = x)
  | r, n, 0, _, _, h, _, _, _ => by omega
  | 0, n, m + 1, out, hn, _, ho, hp, hm' => by
    refine ⟨out, ?_, hp, fun x => ?_⟩
    · rw [ref19_Units.l0, if_neg (by simp only [decide_eq_true_eq]; omega)]
    · rw [hm' x, List.take_of_length_le (by omega)]
  | r + 1, n, m + 1, out, hn, hm, ho, hp, hmem => by
    have h : n < l.length := by omega
    have e : l.take (n + 1) = l.take n ++ [l[n]] := by rw [List.take_add_one, List.getElem?_eq_getElem h]; rfl
    have hmem' : ∀ x, (∃ c ∈ l.take (n + 1), c.Unit = x) ↔ x ∈ out ∨ x = l[n].Unit := fun x => by
      rw [e, hmem x]
      constructor
      · rintro ⟨c, hc, rfl⟩
        rcases List.mem_append.1 hc with hc | hc
        · exact .inl ⟨c, hc, rfl⟩
        · rw [List.mem_singleton] at hc; subst hc; exact .inr rfl
      · rintro (⟨c, hc, rfl⟩ | rfl)
        · exact ⟨c, List.mem_append_left _ hc, rfl⟩
        · exact ⟨l[n], List.mem_append_right _ (by simp), rfl⟩
    obtain ⟨p, hp1, hp2, hp3, hp4⟩ := refUnits_l1 k h (out := out) (by omega) out.length 0 k (by omega) (by omega) (by simp)
    rw [show ((0 : Nat) : Int) = 0 from rfl] at hp1
    rw [ref19_Units.l0, if_pos (by simp only [decide_eq_true_eq]; omega), hp1, Option.bind_some, inc n (by omega)]
    by_cases hin : p < out.length ∧ out[p]? = some l[n].Unit
    · have hg : out[p]'hin.1 = l[n].Unit := (List.getElem?_eq_some_iff.1 hin.2).2
      rw [if_pos (by simp only [decide_eq_true_eq]; omega), idx_nat hin.1, Option.bind_some, idx_nat h, Option.bind_some, Option.bind_some, if_pos (by simpa using hg), Option.bind_some]
      refine refUnits_l0 k hl2 hlk r (n + 1) m out (by omega) (by omega) (by omega) hp fun x => ?_
      rw [hmem' x]
      constructor
      · exact .inl
      · rintro (h1 | rfl)
        · exact h1
        · rw [← hg]; exact List.getElem_mem _
    · have hcond : ((if decide ((p : Int) < (out.length : Int)) = true then (idx out (p : Int)).bind fun x30 => (idx l (n : Int)).bind fun x38 => some (x30 == x38.Unit) else some false)) = some false := by
        by_cases hpl : p < out.length
        · rw [if_pos (by simp only [decide_eq_true_eq]; omega), idx_nat hpl, Option.bind_some, idx_nat h, Option.bind_some]
          have : ¬ out[p] = l[n].Unit := fun e => hin ⟨hpl, by rw [List.getElem?_eq_getElem hpl, e]⟩
          simp [this]
        · rw [if_neg (by simp only [decide_eq_true_eq]; omega)]
      have htl : (out.take p).length = p := by rw [List.length_take]; omega
      have hdl : (out.drop p).length = out.length - p := List.length_drop
      rw [hcond, Option.bind_some, if_neg (by simp), idx_nat h, Option.bind_some, if_pos (by omega), Int.toNat_natCast, List.drop_zero, app_some (by rw [List.length_nil, htl]; omega), List.nil_append, Option.bind_some,
        app_some (by rw [List.length_singleton, htl]; omega), Option.bind_some, if_pos (by omega), List.take_length, app_some (by rw [List.length_append, List.length_singleton, htl, hdl]; omega)]
      simp only [Option.bind_some]
      have hge : ∀ y ∈ out.drop p, l[n].Unit < y := fun y hy => by
        obtain ⟨j, hj, rfl⟩ := List.mem_iff_getElem.1 hy
        rw [hdl] at hj
        rw [List.getElem_drop]
        have hpl : p < out.length := by omega
        have h1 := hp4 out[p] (List.getElem?_eq_getElem hpl)
        have h2 : out[p] ≠ l[n].Unit := fun e => hin ⟨hpl, by rw [List.getElem?_eq_getElem hpl, e]⟩
        rcases Nat.eq_zero_or_pos j with h3 | h3
        · subst h3; simp only [Nat.add_zero]; omega
        · have := List.pairwise_iff_getElem.1 hp p (p + j) hpl (by omega) (by omega)
          omega
      refine refUnits_l0 k hl2 hlk r (n + 1) m _ (by omega) (by omega) (by rw [List.length_append, List.length_append, List.length_singleton, htl, hdl]; omega) ?_ fun x => ?_
      · rw [List.append_assoc, List.pairwise_append]
        have hsplit := hp
        rw [← List.take_append_drop p out, List.pairwise_append] at hsplit
        refine ⟨hsplit.1, ?_, fun a ha b hb => ?_⟩
        · rw [List.singleton_append, List.pairwise_cons]
          exact ⟨hge, hsplit.2.1⟩
        · rw [List.singleton_append] at hb
          rcases List.mem_cons.1 hb with hb | hb
          · subst hb; exact hp3 a ha
          · exact hsplit.2.2 a ha b hb
      · rw [hmem' x]
        have : x ∈ out ↔ x ∈ out.take p ∨ x ∈ out.drop p := by
          conv => lhs; rw [← List.take_append_drop p out]
          exact List.mem_append
        rw [this]
        simp only [List.mem_append, List.mem_singleton]
        constructor
        · rintro ((h1 | h1) | h1)
          · exact .inl (.inl h1)
          · exact .inr h1
          · exact .inl (.inr h1)
        · rintro ((h1 | h1) | h1)
          · exact .inl (.inl h1)
          · exact .inr h1
          · exact .inl (.inr h1)
theorem ref19_Units_at {k : Nat} {l : List TChange} (hk : l.length < k) (hl2 : l.length ≤ 100000) : ref19_Units k l = some (unitsC l) := by
  unfold ref19_Units
  obtain ⟨o, h1, h2, h3⟩ := refUnits_l0 k hl2 hk l.length 0 k [] (by omega) hk (by simp) List.Pairwise.nil (fun x => by simp)
  rw [show ((0 : Nat) : Int) = 0 from rfl] at h1
  rw [h1, Option.bind_some, sorted_oneI o (unitsC l) h2 (unitsC_sorted l) fun x => by rw [h3, mem_unitsC]]
theorem Ints_l0 (k : Nat) (l : List Int) : ∀ (r n m : Nat), n + r = l.length → r < m → l.length < 2 ^ 60 → ref01_Ints.l0 k l l m (n : Int) = some (.brk ())
  | r, n, 0, _, h, _ => by omega
  | 0, n, m + 1, hn, _, _ => by
    rw [ref01_Ints.l0, if_neg (by simp only [decide_eq_true_eq]; omega)]
  | r + 1, n, m + 1, hn, hr, hl => by
    have h1 : n < l.length := by omega
    rw [ref01_Ints.l0, if_pos (by simp only [decide_eq_true_eq]; omega), idx_nat h1, Option.bind_some, Option.bind_some, if_neg (by simp), inc n (by omega)]
    exact Ints_l0 k l r (n + 1) m (by omega) (by omega) hl
theorem Ints_refl {k : Nat} {l : List Int} (h : l.length < k) (h2 : l.length < 2 ^ 60) : ref01_Ints k l l = some true := by
  unfold ref01_Ints
  rw [if_neg (by simp), show (0 : Int) = ((0 : Nat) : Int) from rfl, Ints_l0 k l l.length 0 k (by omega) h h2]
  rfl
end Go.Proofs.Ytangebngeeamoaa
