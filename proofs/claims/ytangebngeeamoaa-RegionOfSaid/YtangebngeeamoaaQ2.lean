/- Plain laws on lists of regions: searching, what lies twice, their order. -/
import Derived.Test.YtangebngeeamoaaQ1
set_option linter.unusedVariables false
set_option linter.unusedSimpArgs false
set_option maxRecDepth 100000
namespace Go.Proofs.Ytangebngeeamoaa
open Go.RowKit Go.Pod
theorem enc_region (a : TRegion) : TRegion.enc a = .int .i64 a.Unit :: TCube.enc a.Cube := rfl
theorem cellsEq_region (a b : TRegion) : cellsEq (TRegion.enc a) (TRegion.enc b) = true ↔ a = b := by
  rw [enc_region, enc_region, cellsEq, Bool.and_eq_true_iff, cellsEq_cube]
  simp only [leafEq, Bool.and_eq_true, beq_iff_eq]
  constructor
  · rintro ⟨h1, h2⟩
    cases a; cases b; simp_all
  · rintro rfl; simp
instance : DecidableEq TRegion := fun a b => decidable_of_iff _ (cellsEq_region a b)
theorem cellsEq_decR (a b : TRegion) : cellsEq (TRegion.enc a) (TRegion.enc b) = decide (a = b) := by
  rw [Bool.eq_iff_iff, cellsEq_region, decide_eq_true_eq]
theorem IndexFuncR_l0 (k : Nat) {xs : List TRegion} {p : TRegion → Option Bool} {q : TRegion → Bool} (hq : ∀ x ∈ xs, p x = some (q x)) (hl : xs.length < 2 ^ 62) : ∀ (r n m : Nat), n + r = xs.length → r < m →
    slices_IndexFunc_Region.l0 k xs p m (n : Int) = some (match (xs.drop n).findIdx? q with | some i => .ret ((n + i : Nat) : Int) | none => .brk ())
  | r, n, 0, _, h => by omega
  | 0, n, m + 1, hn, _ => by
    rw [slices_IndexFunc_Region.l0, if_neg (by simp only [decide_eq_true_eq]; omega), List.drop_eq_nil_of_le (by omega)]; rfl
  | r + 1, n, m + 1, hn, hm => by
    have h : n < xs.length := by omega
    rw [slices_IndexFunc_Region.l0, if_pos (by simp only [decide_eq_true_eq]; omega), idx_nat h, Option.bind_some, hq _ (List.getElem_mem h), Option.bind_some, List.drop_eq_getElem_cons h, List.findIdx?_cons]
    cases hb : q xs[n]
    · simp only [Bool.false_eq_true, if_false]
      rw [inc n (by omega), IndexFuncR_l0 k hq hl r (n + 1) m (by omega) (by omega)]
      cases (xs.drop (n + 1)).findIdx? q with
      | none => rfl
      | some i => simp only [Option.map_some]; rw [show n + 1 + i = n + (i + 1) by omega]
    · simp
theorem IndexFuncR_at {k : Nat} {xs : List TRegion} {p : TRegion → Option Bool} {q : TRegion → Bool} (hq : ∀ x ∈ xs, p x = some (q x)) (hl : xs.length < 2 ^ 62) (hk : xs.length < k) :
    slices_IndexFunc_Region k xs p = some (match xs.findIdx? q with | some i => (i : Int) | none => -1) := by
  unfold slices_IndexFunc_Region
  have := IndexFuncR_l0 k hq hl xs.length 0 k (by omega) (by omega)
  rw [show ((0 : Nat) : Int) = 0 from rfl, List.drop_zero] at this
  rw [this, Option.bind_some]
  cases xs.findIdx? q with
  | none => rfl
  | some i => simp only [Nat.zero_add]
theorem ContainsFuncR_at {k : Nat} {xs : List TRegion} {p : TRegion → Option Bool} {q : TRegion → Bool} (hq : ∀ x ∈ xs, p x = some (q x)) (hl : xs.length < 2 ^ 62) (hk : xs.length < k) :
    slices_ContainsFunc_Region k xs p = some (xs.any q) := by
  unfold slices_ContainsFunc_Region
  rw [IndexFuncR_at hq hl hk, Option.bind_some]
  congr 1
  cases h : xs.findIdx? q with
  | none =>
    rw [List.findIdx?_eq_none_iff] at h
    have : xs.any q = false := by rw [List.any_eq_false]; intro x hx; rw [h x hx]; simp
    rw [this]; rfl
  | some i =>
    rw [List.findIdx?_eq_some_iff_getElem] at h
    obtain ⟨hi, hp, _⟩ := h
    have : xs.any q = true := List.any_eq_true.2 ⟨_, List.getElem_mem hi, hp⟩
    rw [this]
    simp
/-- One of each run of equals, the first n looked at. -/
def DDR (xs : List TRegion) : Nat → List TRegion
  | 0 => []
  | n + 1 => DDR xs n ++ (if 0 < n ∧ xs[n]? = xs[n - 1]? then [] else xs[n]?.toList)
theorem DDR_len (xs : List TRegion) : ∀ n, (DDR xs n).length ≤ n
  | 0 => Nat.le_refl _
  | n + 1 => by
    have := DDR_len xs n
    rw [DDR, List.length_append]
    split
    · simp; omega
    · cases xs[n]? <;> simp <;> omega
theorem DDR_mem (xs : List TRegion) (x : TRegion) : ∀ n, n ≤ xs.length → (x ∈ DDR xs n ↔ x ∈ xs.take n)
  | 0, _ => by simp [DDR]
  | n + 1, h => by
    have h' : n < xs.length := by omega
    rw [DDR, List.mem_append, DDR_mem xs x n (by omega), List.take_add_one, List.mem_append, List.getElem?_eq_getElem h']
    by_cases he : 0 < n ∧ some xs[n] = xs[n - 1]?
    · rw [if_pos he]
      have h2 : n - 1 < xs.length := by omega
      have e := he.2
      rw [List.getElem?_eq_getElem h2, Option.some.injEq] at e
      simp only [List.not_mem_nil, or_false, Option.toList_some, List.mem_singleton]
      constructor
      · exact .inl
      · rintro (h3 | h3)
        · exact h3
        · subst h3
          rw [e]
          exact List.mem_take_iff_getElem.2 ⟨n - 1, by omega, rfl⟩
    · rw [if_neg he]
theorem CompactR_l1 (k : Nat) {xs : List TRegion} (hl : xs.length < 2 ^ 62) {b : Nat} : ∀ (s n m w : Nat) (cur : List TRegion), b + n + s = xs.length → s < m → 0 < n →
    cur.length = xs.length → w ≤ b + n - 1 → cur.take w = DDR xs (b + n) → cur.drop (b + n - 1) = xs.drop (b + n - 1) →
    ∃ (cur' : List TRegion) (w' : Nat), slices_Compact_Region.l1 k (b : Int) m cur (w : Int) (n : Int) = some (cur', (w' : Int)) ∧ w' ≤ cur'.length ∧ cur'.take w' = DDR xs xs.length
  | s, n, 0, _, _, _, h, _, _, _, _, _ => by omega
  | 0, n, m + 1, w, cur, hn, _, h0, hc, hw, ht, hd => by
    refine ⟨cur, w, ?_, by omega, ?_⟩
    · rw [slices_Compact_Region.l1, if_neg (by simp only [decide_eq_true_eq, Int.toNat_natCast]; omega)]
    · rw [ht, show b + n = xs.length by omega]
  | s + 1, n, m + 1, w, cur, hn, hm, h0, hc, hw, ht, hd => by
    have h1 : b + n < xs.length := by omega
    have h2 : b + n - 1 < xs.length := by omega
    have g : ∀ j, b + n - 1 ≤ j → cur[j]? = xs[j]? := fun j hj => by
      have : (cur.drop (b + n - 1))[j - (b + n - 1)]? = (xs.drop (b + n - 1))[j - (b + n - 1)]? := by rw [hd]
      rw [List.getElem?_drop, List.getElem?_drop, show b + n - 1 + (j - (b + n - 1)) = j by omega] at this
      exact this
    have hdl : (cur.drop b).length = xs.length - b := by rw [List.length_drop, hc]
    have e1 : idx (cur.drop b) (n : Int) = some xs[b + n] := by
      rw [idx_nat (by omega), ← List.getElem?_eq_getElem, List.getElem?_drop, g _ (by omega), List.getElem?_eq_getElem h1]
    have e2 : idx (cur.drop b) (IntKind.i64.wrap ((n : Int) - 1)) = some (xs[b + n - 1]) := by
      rw [wrapI (by omega) (by omega), show (n : Int) - 1 = ((n - 1 : Nat) : Int) by omega, idx_nat (by omega), ← List.getElem?_eq_getElem, List.getElem?_drop, show b + (n - 1) = b + n - 1 by omega, g _ (by omega), List.getElem?_eq_getElem h2]
    have hw' : w < cur.length := by omega
    rw [slices_Compact_Region.l1, if_pos (by simp only [decide_eq_true_eq, Int.toNat_natCast]; omega), Int.toNat_natCast, e1, Option.bind_some, e2, Option.bind_some]
    have hDD : DDR xs (b + (n + 1)) = DDR xs (b + n) ++ (if xs[b + n] = xs[b + n - 1] then [] else [xs[b + n]]) := by
      rw [show b + (n + 1) = b + n + 1 by omega, DDR, List.getElem?_eq_getElem h1, List.getElem?_eq_getElem h2]
      congr 1
      by_cases e : xs[b + n] = xs[b + n - 1]
      · rw [if_pos ⟨by omega, by rw [e]⟩, if_pos e]
      · rw [if_neg (fun h => e (Option.some.inj h.2)), if_neg e]; rfl
    have hdrop : ∀ c : List TRegion, c.drop (b + n - 1) = xs.drop (b + n - 1) → c.drop (b + (n + 1) - 1) = xs.drop (b + (n + 1) - 1) := fun c hc' => by
      rw [show b + (n + 1) - 1 = (b + n - 1) + 1 by omega, ← List.drop_drop, hc', List.drop_drop]
    cases hb : cellsEq (TRegion.enc xs[b + n]) (TRegion.enc xs[b + n - 1])
    · have hne : ¬ xs[b + n] = xs[b + n - 1] := fun h => by rw [(cellsEq_region _ _).2 h] at hb; cases hb
      simp only [Bool.not_false, if_true]
      rw [idx_nat hw']
      simp only [Option.bind_some, Int.toNat_natCast]
      rw [inc w (by omega), inc n (by omega)]
      refine CompactR_l1 k hl s (n + 1) m (w + 1) _ (by omega) (by omega) (by omega) (by simpa using hc) (by omega) ?_ ?_
      · rw [hDD, if_neg hne, ← ht, List.take_add_one, List.getElem?_set, if_pos rfl, if_pos hw']
        simp only [Option.toList_some]
        congr 1
        rw [List.take_set_of_le (Nat.le_refl _)]
      · rw [show b + (n + 1) - 1 = b + n by omega, List.drop_set_of_lt (by omega)]
        have := hdrop cur hd
        rwa [show b + (n + 1) - 1 = b + n by omega] at this
    · have he := (cellsEq_region _ _).1 hb
      simp only [Bool.not_true, Bool.false_eq_true, if_false, Option.bind_some]
      rw [inc n (by omega)]
      refine CompactR_l1 k hl s (n + 1) m w cur (by omega) (by omega) (by omega) hc (by omega) ?_ (hdrop _ hd)
      rw [hDD, if_pos he, ← ht, List.append_nil]
theorem CompactR_l0 {k : Nat} {xs : List TRegion} (hl : xs.length < 2 ^ 62) (hk : xs.length < k) : ∀ (s n m : Nat), n + s = xs.length → s < m → 0 < n → xs.take n = DDR xs n →
    ∃ o, slices_Compact_Region.l0 k xs m (n : Int) = some o ∧ (match o with | .ret r => r | .brk _ => xs) = DDR xs xs.length
  | s, n, 0, _, h, _, _ => by omega
  | 0, n, m + 1, hn, _, h0, ht => by
    refine ⟨.brk (), ?_, ?_⟩
    · rw [slices_Compact_Region.l0, if_neg (by simp only [decide_eq_true_eq]; omega)]
    · show xs = _
      rw [show xs.length = n by omega, ← ht, List.take_of_length_le (by omega)]
  | s + 1, n, m + 1, hn, hm, h0, ht => by
    have h1 : n < xs.length := by omega
    have h2 : n - 1 < xs.length := by omega
    rw [slices_Compact_Region.l0, if_pos (by simp only [decide_eq_true_eq]; omega), idx_nat h1, Option.bind_some, wrapI (by omega) (by omega), show (n : Int) - 1 = ((n - 1 : Nat) : Int) by omega, idx_nat h2, Option.bind_some]
    have hDD : DDR xs (n + 1) = DDR xs n ++ (if xs[n] = xs[n - 1] then [] else [xs[n]]) := by
      rw [DDR, List.getElem?_eq_getElem h1, List.getElem?_eq_getElem h2]
      congr 1
      by_cases e : xs[n] = xs[n - 1]
      · rw [if_pos ⟨by omega, by rw [e]⟩, if_pos e]
      · rw [if_neg (fun h => e (Option.some.inj h.2)), if_neg e]; rfl
    cases hb : cellsEq (TRegion.enc xs[n]) (TRegion.enc xs[n - 1])
    · have hne : ¬ xs[n] = xs[n - 1] := fun h => by rw [(cellsEq_region _ _).2 h] at hb; cases hb
      simp only [Bool.false_eq_true, if_false]
      rw [inc n (by omega)]
      refine CompactR_l0 hl hk s (n + 1) m (by omega) (by omega) (by omega) ?_
      rw [hDD, if_neg hne, ← ht, List.take_add_one, List.getElem?_eq_getElem h1]; rfl
    · have he := (cellsEq_region _ _).1 hb
      simp only [if_true]
      rw [if_pos (by omega)]
      obtain ⟨cur', w', e1, e2, e3⟩ := CompactR_l1 k hl (b := n) s 1 k n xs (by omega) (by omega) (by omega) rfl (by omega) (by rw [hDD, if_pos he, List.append_nil, ht]) rfl
      rw [show ((1 : Nat) : Int) = 1 from rfl] at e1
      rw [e1, Option.bind_some]
      simp only
      rw [if_pos (by omega), Int.toNat_natCast]
      exact ⟨_, rfl, e3⟩
theorem CompactR_at {k : Nat} {xs : List TRegion} (hl : xs.length < 2 ^ 62) (hk : xs.length < k) : slices_Compact_Region k xs = some (DDR xs xs.length) := by
  unfold slices_Compact_Region
  by_cases h : xs.length < 2
  · rw [if_pos (by simp only [decide_eq_true_eq]; omega)]
    match xs, h with
    | [], _ => rfl
    | [x], _ => rfl
    | _ :: _ :: _, h => simp at h; omega
  · rw [if_neg (by simp only [decide_eq_true_eq]; omega)]
    obtain ⟨o, h1, h2⟩ := CompactR_l0 hl hk (xs.length - 1) 1 k (by omega) (by omega) (by omega) (by
      rw [List.take_add_one, DDR, DDR]; simp)
    rw [show ((1 : Nat) : Int) = 1 from rfl] at h1
    rw [h1, Option.bind_some]
    cases o with
    | ret r => simp only at h2 ⊢; rw [h2]
    | brk u => simp only at h2 ⊢; rw [← h2]
def keyR (R : TRegion) : List Int := R.Unit :: keyC R.Cube
theorem keyR_inj {a b : TRegion} (h : keyR a = keyR b) : a = b := by
  have h1 := List.cons.inj h
  have h2 := keyC_inj h1.2
  cases a; cases b
  simp_all
def cr (a b : TRegion) : Int := cmpL (keyR a) (keyR b)
theorem cr_self (a : TRegion) : cr a a = 0 := cmpL_self _
theorem cr_anti (a b : TRegion) : cr b a = - cr a b := cmpL_anti _ _
theorem cr_zero {a b : TRegion} (h : cr a b = 0) : a = b := keyR_inj (cmpL_zero _ _ rfl h)
theorem cr_trans {a b c : TRegion} (h : cr a b ≤ 0) (k : cr b c ≤ 0) : cr a c ≤ 0 := cmpL_trans (keyR a) (keyR b) (keyR c) rfl rfl h k
def ltR (a b : TRegion) : Prop := cr a b < 0
theorem ltR.trans {a b c : TRegion} (h : ltR a b) (k : ltR b c) : ltR a c := by
  unfold ltR at *
  rcases Int.lt_or_eq_of_le (cr_trans (Int.le_of_lt h) (Int.le_of_lt k)) with h1 | h1
  · exact h1
  · have := cr_zero h1
    subst this
    have := cr_anti a b
    omega
theorem ltR.irrefl (a : TRegion) : ¬ ltR a a := by unfold ltR; rw [cr_self]; omega
theorem ltR.le {a b c : TRegion} (h : cr a b ≤ 0) (k : ltR b c) : ltR a c := by
  rcases Int.lt_or_eq_of_le h with h1 | h1
  · exact ltR.trans h1 k
  · rw [cr_zero h1]; exact k
/-- Two rows in order with the same cubes are one. -/
theorem sorted_oneR : ∀ (xs ys : List TRegion), xs.Pairwise ltR → ys.Pairwise ltR → (∀ x, x ∈ xs ↔ x ∈ ys) → xs = ys
  | [], ys, _, _, h => by
    cases ys with
    | nil => rfl
    | cons y ys => exact absurd ((h y).2 (by simp)) (by simp)
  | x :: xs, [], _, _, h => absurd ((h x).1 (by simp)) (by simp)
  | x :: xs, y :: ys, h1, h2, h => by
    rw [List.pairwise_cons] at h1 h2
    have e : x = y := by
      rcases List.mem_cons.1 ((h x).1 (by simp)) with h3 | h3
      · exact h3
      · rcases List.mem_cons.1 ((h y).2 (by simp)) with h4 | h4
        · exact h4.symm
        · exact absurd (ltR.trans (h1.1 _ h4) (h2.1 _ h3)) (ltR.irrefl _)
    subst e
    rw [sorted_oneR xs ys h1.2 h2.2]
    intro z
    constructor
    · intro hz
      rcases List.mem_cons.1 ((h z).1 (List.mem_cons_of_mem _ hz)) with h3 | h3
      · subst h3; exact absurd (h1.1 _ hz) (ltR.irrefl _)
      · exact h3
    · intro hz
      rcases List.mem_cons.1 ((h z).2 (List.mem_cons_of_mem _ hz)) with h3 | h3
      · subst h3; exact absurd (h2.1 _ hz) (ltR.irrefl _)
      · exact h3

theorem cmp_CompareI_at (x y : Int) : cmp_Compare_int x y = some (if x < y then -1 else if y < x then 1 else 0) := by
  unfold cmp_Compare_int cmp_isNaN_int
  simp only [bne_self_eq_false, Option.bind_some, Bool.false_eq_true, if_false, decide_eq_true_eq]
  split
  · rfl
  · split <;> rfl
theorem region_compare_at {k : Nat} (hk : 12 < k) (a b : TRegion) : region_compare k a b = some (cr a b) := by
  unfold region_compare
  rw [cmp_CompareI_at, Option.bind_some, cube_Compare_at hk, Option.bind_some, cmp_Or_at hk, Option.bind_some]
  unfold cr keyR cc
  by_cases h1 : a.Unit < b.Unit
  · rw [if_pos h1, if_neg (by decide), cmpL, if_pos h1]
  · by_cases h2 : b.Unit < a.Unit
    · rw [if_neg h1, if_pos h2, if_neg (by decide), cmpL, if_neg h1, if_pos h2]
    · rw [if_neg h1, if_neg h2, if_pos rfl, cmpL, if_neg h1, if_neg h2]
theorem ordsR {k : Nat} (hk : 12 < k) : Ords (fun a b => region_compare k a b) cr where
  val a b := region_compare_at hk a b
  swo := {
    irrefl := fun x => by unfold ltOf; rw [cr_self]; rfl
    trans := fun x y z h1 h2 => by
      unfold ltOf at *
      rw [decide_eq_true_eq] at *
      exact ltR.trans h1 h2
    ntrans := fun x y z h1 h2 => by
      unfold ltOf at *
      rw [decide_eq_false_iff_not] at *
      have a1 := cr_anti x y
      have a2 := cr_anti y z
      have a3 := cr_anti x z
      have := cr_trans (a := z) (b := y) (c := x) (by omega) (by omega)
      omega }
  tot a b h1 h2 := by
    unfold ltOf at h1 h2
    rw [decide_eq_false_iff_not] at h1 h2
    have := cr_anti a b
    exact cr_zero (by omega)
def leR (x y : TRegion) : Bool := !(Go.Proofs.ltOf cr) y x
theorem leR_iff {x y : TRegion} : leR x y = true ↔ cr x y ≤ 0 := by
  unfold leR ltOf
  have := cr_anti x y
  simp only [Bool.not_eq_true', decide_eq_false_iff_not]
  omega
theorem SortFuncR_at {k : Nat} (hk : 12 < k) {xs : List TRegion} (hl : xs.length < 2 ^ 62) : slices_SortFunc_Region xs (fun a b => region_compare k a b) = some (xs.mergeSort leR) := by
  unfold slices_SortFunc_Region
  rw [sortO_eq (ordsR hk) (by omega)]; rfl
theorem sortR_sorted (xs : List TRegion) : (xs.mergeSort leR).Pairwise fun a b => cr a b ≤ 0 := by
  have := List.pairwise_mergeSort (le := leR) (fun a b c h1 h2 => leR_iff.2 (cr_trans (leR_iff.1 h1) (leR_iff.1 h2))) (fun a b => by
    rw [Bool.or_eq_true_iff, leR_iff, leR_iff]
    have := cr_anti a b
    omega) xs
  exact this.imp fun h => leR_iff.1 h
theorem sortR_mem {xs : List TRegion} {x : TRegion} : x ∈ xs.mergeSort leR ↔ x ∈ xs := (List.mergeSort_perm xs leR).mem_iff

/-! ### One of each -/
theorem DDR_sorted {xs : List TRegion} (h : xs.Pairwise fun a b => cr a b ≤ 0) : ∀ n, n ≤ xs.length → (DDR xs n).Pairwise ltR
  | 0, _ => by rw [DDR]; exact List.Pairwise.nil
  | n + 1, hn => by
    have h1 : n < xs.length := by omega
    rw [DDR, List.getElem?_eq_getElem h1, List.pairwise_append]
    refine ⟨DDR_sorted h n (by omega), ?_, fun y hy z hz => ?_⟩
    · split <;> simp
    · split at hz
      · cases hz
      · rename_i hne
        simp only [Option.toList_some, List.mem_singleton] at hz
        subst hz
        rw [DDR_mem xs y n (by omega), List.mem_take_iff_getElem] at hy
        obtain ⟨j, hj, rfl⟩ := hy
        have hj' : j < n := by omega
        have h2 : n - 1 < xs.length := by omega
        have hne' : xs[n - 1] ≠ xs[n] := fun e => hne ⟨by omega, by rw [List.getElem?_eq_getElem h2, e]⟩
        have hp := List.pairwise_iff_getElem.1 h
        have h3 : ltR xs[n - 1] xs[n] := by
          rcases Int.lt_or_eq_of_le (hp (n - 1) n h2 h1 (by omega)) with h4 | h4
          · exact h4
          · exact absurd (cr_zero h4) hne'
        rcases Nat.lt_or_ge j (n - 1) with h5 | h5
        · exact ltR.le (hp j (n - 1) (by omega) h2 h5) h3
        · obtain rfl : j = n - 1 := by omega
          exact h3

end Go.Proofs.Ytangebngeeamoaa
