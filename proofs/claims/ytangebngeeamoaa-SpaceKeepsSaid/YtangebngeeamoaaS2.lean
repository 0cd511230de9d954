/- Plain laws on lists of cubes: their order, and what is left of them without those that are not needed. -/
import Derived.Test.YtangebngeeamoaaS1
import Derived.Test.YtangebngeeamoaaL17
set_option linter.unusedVariables false
set_option linter.unusedSimpArgs false
set_option maxRecDepth 100000
namespace Go.Proofs.Ytangebngeeamoaa
open Go.RowKit Go.Pod

/-! ### The order -/
def cmpL : List Int → List Int → Int
  | x :: xs, y :: ys => if x < y then -1 else if y < x then 1 else cmpL xs ys
  | _, _ => 0
theorem cmpL_self : ∀ xs : List Int, cmpL xs xs = 0
  | [] => rfl
  | x :: xs => by rw [cmpL, if_neg (Int.lt_irrefl x), if_neg (Int.lt_irrefl x)]; exact cmpL_self xs
theorem cmpL_anti : ∀ xs ys : List Int, cmpL ys xs = - cmpL xs ys
  | [], [] | [], _ :: _ | _ :: _, [] => rfl
  | x :: xs, y :: ys => by
    simp only [cmpL]
    have := cmpL_anti xs ys
    by_cases h1 : x < y
    · rw [if_neg (by omega), if_pos h1, if_pos h1]; rfl
    · by_cases h2 : y < x
      · rw [if_pos h2, if_neg h1, if_pos h2]
      · rw [if_neg h2, if_neg h1, if_neg h1, if_neg h2]; exact this
theorem cmpL_zero : ∀ xs ys : List Int, xs.length = ys.length → cmpL xs ys = 0 → xs = ys
  | [], [], _, _ => rfl
  | [], _ :: _, h, _ => by simp at h
  | _ :: _, [], h, _ => by simp at h
  | x :: xs, y :: ys, h, h0 => by
    simp only [cmpL] at h0
    by_cases h1 : x < y
    · rw [if_pos h1] at h0; cases h0
    · by_cases h2 : y < x
      · rw [if_neg h1, if_pos h2] at h0; cases h0
      · rw [if_neg h1, if_neg h2] at h0
        rw [cmpL_zero xs ys (by simpa using h) h0, show x = y by omega]
theorem cmpL_trans : ∀ xs ys zs : List Int, xs.length = ys.length → ys.length = zs.length → cmpL xs ys ≤ 0 → cmpL ys zs ≤ 0 → cmpL xs zs ≤ 0
  | [], [], [], _, _, _, _ => Int.le_refl _
  | [], _ :: _, _, h, _, _, _ => by simp at h
  | _ :: _, [], _, h, _, _, _ => by simp at h
  | _, [], _ :: _, _, h, _, _ => by simp at h
  | _, _ :: _, [], _, h, _, _ => by simp at h
  | x :: xs, y :: ys, z :: zs, h, h', h1, h2 => by
    simp only [cmpL] at *
    have ih := cmpL_trans xs ys zs (by simpa using h) (by simpa using h')
    by_cases a : x < z
    · rw [if_pos a]; omega
    · rw [if_neg a]
      by_cases b : x < y
      · rw [if_neg (by omega), if_pos (by omega)] at h2; omega
      · rw [if_neg b] at h1
        by_cases c : y < x
        · rw [if_pos c] at h1; omega
        · rw [if_neg c] at h1
          obtain rfl : x = y := by omega
          rw [if_neg a] at h2
          by_cases d : z < x
          · rw [if_pos d] at h2; omega
          · rw [if_neg d] at h2; rw [if_neg d]; exact ih h1 h2
theorem cmpL_app : ∀ (xs ys us vs : List Int), xs.length = ys.length → cmpL (xs ++ us) (ys ++ vs) = if cmpL xs ys = 0 then cmpL us vs else cmpL xs ys
  | [], [], us, vs, _ => by rw [List.nil_append, List.nil_append, show cmpL [] [] = 0 from rfl, if_pos rfl]
  | [], _ :: _, _, _, h => by simp at h
  | _ :: _, [], _, _, h => by simp at h
  | x :: xs, y :: ys, us, vs, h => by
    rw [List.cons_append, List.cons_append]
    have ih := cmpL_app xs ys us vs (by simpa using h)
    by_cases h1 : x < y
    · have e : ∀ l l', cmpL (x :: l) (y :: l') = -1 := fun l l' => by rw [cmpL, if_pos h1]
      rw [e, e, if_neg (by decide)]
    · by_cases h2 : y < x
      · have e : ∀ l l', cmpL (x :: l) (y :: l') = 1 := fun l l' => by rw [cmpL, if_neg h1, if_pos h2]
        rw [e, e, if_neg (by decide)]
      · have e : ∀ l l', cmpL (x :: l) (y :: l') = cmpL l l' := fun l l' => by rw [cmpL, if_neg h1, if_neg h2]
        rw [e, e]; exact ih
def keyC (c : TCube) : List Int := A12u64.list c.Care ++ A12u64.list c.Value
theorem keyC_len (c : TCube) : (keyC c).length = 24 := rfl
theorem keyC_inj {c d : TCube} (h : keyC c = keyC d) : c = d := by
  apply (cellsEq_cube c d).1
  simp only [keyC, A12u64.list, List.cons_append, List.nil_append, List.cons.injEq, and_true] at h
  simp only [TCube.enc, cellsEq, leafEq, Bool.and_eq_true, beq_iff_eq, Bool.and_true]
  simp only [h, and_self]
def cc (a b : TCube) : Int := cmpL (keyC a) (keyC b)
theorem cc_self (a : TCube) : cc a a = 0 := cmpL_self _
theorem cc_anti (a b : TCube) : cc b a = - cc a b := cmpL_anti _ _
theorem cc_zero {a b : TCube} (h : cc a b = 0) : a = b := keyC_inj (cmpL_zero _ _ rfl h)
theorem cc_trans {a b c : TCube} (h : cc a b ≤ 0) (k : cc b c ≤ 0) : cc a c ≤ 0 := cmpL_trans (keyC a) (keyC b) (keyC c) rfl rfl h k
def ltC (a b : TCube) : Prop := cc a b < 0
theorem ltC.trans {a b c : TCube} (h : ltC a b) (k : ltC b c) : ltC a c := by
  unfold ltC at *
  rcases Int.lt_or_eq_of_le (cc_trans (Int.le_of_lt h) (Int.le_of_lt k)) with h1 | h1
  · exact h1
  · have := cc_zero h1
    subst this
    have := cc_anti a b
    omega
theorem ltC.irrefl (a : TCube) : ¬ ltC a a := by unfold ltC; rw [cc_self]; omega
theorem ltC.le {a b c : TCube} (h : cc a b ≤ 0) (k : ltC b c) : ltC a c := by
  rcases Int.lt_or_eq_of_le h with h1 | h1
  · exact ltC.trans h1 k
  · rw [cc_zero h1]; exact k
/-- Two rows in order with the same cubes are one. -/
theorem sorted_one : ∀ (xs ys : List TCube), xs.Pairwise ltC → ys.Pairwise ltC → (∀ x, x ∈ xs ↔ x ∈ ys) → xs = ys
  | [], ys, _, _, h => by
    cases ys with
    | nil => rfl
    | cons y ys => exact absurd ((h y).2 (by simp)) (by simp)
  | x :: xs, [], _, _, h => absurd ((h x).1 (by simp)) (by simp)
  | x :: xs, y :: ys, h1, h2, h => by
    rw [List.pairwise_cons] at h1 h2
    have e : x = y := by
      rcases List.mem_cons.1 ((h x).1 (by simp)) with h3 | h3
      · exact h3
      · rcases List.mem_cons.1 ((h y).2 (by simp)) with h4 | h4
        · exact h4.symm
        · exact absurd (ltC.trans (h1.1 _ h4) (h2.1 _ h3)) (ltC.irrefl _)
    subst e
    rw [sorted_one xs ys h1.2 h2.2]
    intro z
    constructor
    · intro hz
      rcases List.mem_cons.1 ((h z).1 (List.mem_cons_of_mem _ hz)) with h3 | h3
      · subst h3; exact absurd (h1.1 _ hz) (ltC.irrefl _)
      · exact h3
    · intro hz
      rcases List.mem_cons.1 ((h z).2 (List.mem_cons_of_mem _ hz)) with h3 | h3
      · subst h3; exact absurd (h2.1 _ hz) (ltC.irrefl _)
      · exact h3

/-! ### The program's comparison -/
theorem cmp_Compare_at (x y : Int) : cmp_Compare_uint64 x y = some (if x < y then -1 else if y < x then 1 else 0) := by
  unfold cmp_Compare_uint64 cmp_isNaN_uint64
  simp only [bne_self_eq_false, Option.bind_some, Bool.false_eq_true, if_false, decide_eq_true_eq]
  split
  · rfl
  · split <;> rfl
theorem CompareFunc_l0 (k : Nat) {xs ys : List Int} (hxy : xs.length = ys.length) (hl : xs.length < 2 ^ 62) : ∀ (r n m : Nat), n + r = xs.length → r < m →
    slices_CompareFunc_uint64.l0 k xs ys (fun a b => cmp_Compare_uint64 a b) m (n : Int) = some (if cmpL (xs.drop n) (ys.drop n) = 0 then .brk () else .ret (cmpL (xs.drop n) (ys.drop n)))
  | r, n, 0, _, h => by omega
  | 0, n, m + 1, hn, _ => by
    rw [slices_CompareFunc_uint64.l0, if_neg (by simp only [decide_eq_true_eq]; omega), List.drop_eq_nil_of_le (by omega), cmpL]
    · rfl
    · intro _ _ _ _ h; cases h
  | r + 1, n, m + 1, hn, hm => by
    have h : n < xs.length := by omega
    have h' : n < ys.length := by omega
    rw [slices_CompareFunc_uint64.l0, if_pos (by simp only [decide_eq_true_eq]; omega), idx_nat h, Option.bind_some, if_neg (by simp only [decide_eq_true_eq]; omega), idx_nat h', Option.bind_some, cmp_Compare_at, Option.bind_some,
      List.drop_eq_getElem_cons h, List.drop_eq_getElem_cons h', cmpL]
    by_cases h1 : xs[n] < ys[n]
    · simp [h1]
    · by_cases h2 : ys[n] < xs[n]
      · simp [h1, h2]
      · simp only [h1, h2, if_false, bne_self_eq_false, Bool.false_eq_true]
        rw [inc n (by omega)]
        exact CompareFunc_l0 k hxy hl r (n + 1) m (by omega) (by omega)
theorem head_Compare_at {k : Nat} (hk : 12 < k) (a b : Arr 12) : head_Compare k a b = some (cmpL (A12u64.list a) (A12u64.list b)) := by
  unfold head_Compare slices_CompareFunc_uint64
  have := CompareFunc_l0 k (xs := A12u64.list a) (ys := A12u64.list b) rfl (by show 12 < 2 ^ 62; decide) 12 0 k rfl hk
  rw [show ((0 : Nat) : Int) = 0 from rfl, List.drop_zero, List.drop_zero] at this
  rw [this]
  by_cases h : cmpL (A12u64.list a) (A12u64.list b) = 0
  · rw [if_pos h, h]; rfl
  · rw [if_neg h]; rfl
theorem cmp_Or_at {k : Nat} (hk : 12 < k) (x y : Int) : cmp_Or_int k [x, y] = some (if x = 0 then y else x) := by
  obtain ⟨m, rfl⟩ : ∃ m, k = m + 3 := ⟨k - 3, by omega⟩
  unfold cmp_Or_int
  rw [cmp_Or_int.l0, if_pos (by simp), show idx [x, y] 0 = some x from rfl, Option.bind_some]
  by_cases h : x = 0
  · subst h
    rw [if_neg (by simp), cmp_Or_int.l0, if_pos (show decide (IntKind.i64.wrap (0 + 1) < (([0, y] : List Int).length : Int)) = true from rfl), show idx [0, y] (IntKind.i64.wrap (0 + 1)) = some y from rfl, Option.bind_some, if_pos rfl]
    by_cases h2 : y = 0
    · subst h2
      rw [if_neg (by simp), cmp_Or_int.l0, if_neg (show ¬ decide (IntKind.i64.wrap (IntKind.i64.wrap (0 + 1) + 1) < (([0, 0] : List Int).length : Int)) = true from by decide)]; rfl
    · rw [if_pos (by simpa using h2)]; rfl
  · rw [if_pos (by simpa using h), if_neg h]; rfl
theorem cube_Compare_at {k : Nat} (hk : 12 < k) (a b : TCube) : cube_Compare k a b = some (cc a b) := by
  unfold cube_Compare
  rw [head_Compare_at hk, Option.bind_some, head_Compare_at hk, Option.bind_some, cmp_Or_at hk, Option.bind_some]
  unfold cc keyC
  rw [cmpL_app (A12u64.list a.Care) (A12u64.list b.Care) _ _ rfl]
theorem ords {k : Nat} (hk : 12 < k) : Ords (fun a b => cube_Compare k a b) cc where
  val a b := cube_Compare_at hk a b
  swo := {
    irrefl := fun x => by unfold ltOf; rw [cc_self]; rfl
    trans := fun x y z h1 h2 => by
      unfold ltOf at *
      rw [decide_eq_true_eq] at *
      exact ltC.trans h1 h2
    ntrans := fun x y z h1 h2 => by
      unfold ltOf at *
      rw [decide_eq_false_iff_not] at *
      have a1 := cc_anti x y
      have a2 := cc_anti y z
      have a3 := cc_anti x z
      have := cc_trans (a := z) (b := y) (c := x) (by omega) (by omega)
      omega }
  tot a b h1 h2 := by
    unfold ltOf at h1 h2
    rw [decide_eq_false_iff_not] at h1 h2
    have := cc_anti a b
    exact cc_zero (by omega)
def leB (x y : TCube) : Bool := !(Go.Proofs.ltOf cc) y x
theorem leB_iff {x y : TCube} : leB x y = true ↔ cc x y ≤ 0 := by
  unfold leB ltOf
  have := cc_anti x y
  simp only [Bool.not_eq_true', decide_eq_false_iff_not]
  omega
theorem SortFunc_at {k : Nat} (hk : 12 < k) {xs : List TCube} (hl : xs.length < 2 ^ 62) : slices_SortFunc_Cube xs (fun a b => cube_Compare k a b) = some (xs.mergeSort leB) := by
  unfold slices_SortFunc_Cube
  rw [sortO_eq (ords hk) (by omega)]; rfl
theorem sort_sorted (xs : List TCube) : (xs.mergeSort leB).Pairwise fun a b => cc a b ≤ 0 := by
  have := List.pairwise_mergeSort (le := leB) (fun a b c h1 h2 => leB_iff.2 (cc_trans (leB_iff.1 h1) (leB_iff.1 h2))) (fun a b => by
    rw [Bool.or_eq_true_iff, leB_iff, leB_iff]
    have := cc_anti a b
    omega) xs
  exact this.imp fun h => leB_iff.1 h
theorem sort_mem {xs : List TCube} {x : TCube} : x ∈ xs.mergeSort leB ↔ x ∈ xs := (List.mergeSort_perm xs leB).mem_iff

/-! ### One of each -/
theorem DD_sorted {xs : List TCube} (h : xs.Pairwise fun a b => cc a b ≤ 0) : ∀ n, n ≤ xs.length → (DD xs n).Pairwise ltC
  | 0, _ => by rw [DD]; exact List.Pairwise.nil
  | n + 1, hn => by
    have h1 : n < xs.length := by omega
    rw [DD, List.getElem?_eq_getElem h1, List.pairwise_append]
    refine ⟨DD_sorted h n (by omega), ?_, fun y hy z hz => ?_⟩
    · split <;> simp
    · split at hz
      · cases hz
      · rename_i hne
        simp only [Option.toList_some, List.mem_singleton] at hz
        subst hz
        rw [DD_mem xs y n (by omega), List.mem_take_iff_getElem] at hy
        obtain ⟨j, hj, rfl⟩ := hy
        have hj' : j < n := by omega
        have h2 : n - 1 < xs.length := by omega
        have hne' : xs[n - 1] ≠ xs[n] := fun e => hne ⟨by omega, by rw [List.getElem?_eq_getElem h2, e]⟩
        have hp := List.pairwise_iff_getElem.1 h
        have h3 : ltC xs[n - 1] xs[n] := by
          rcases Int.lt_or_eq_of_le (hp (n - 1) n h2 h1 (by omega)) with h4 | h4
          · exact h4
          · exact absurd (cc_zero h4) hne'
        rcases Nat.lt_or_ge j (n - 1) with h5 | h5
        · exact ltC.le (hp j (n - 1) (by omega) h2 h5) h3
        · obtain rfl : j = n - 1 := by omega
          exact h3

/-! ### Wider -/
def wC (c d : TCube) : Bool := allFrom (wB c d) 0
theorem wider_l0 (k : Nat) (d c : TCube) : ∀ (r n m : Nat), n + r = 12 → r < m → space_wider.l0 k d c m (n : Int) = some (if allFrom (wB c d) n then .brk () else .ret false)
  | r, n, 0, _, h => by omega
  | 0, n, m + 1, hn, _ => by
    obtain rfl : n = 12 := by omega
    rw [space_wider.l0, if_neg (by decide), allFrom_end, if_pos rfl]
  | r + 1, n, m + 1, hn, hm => by
    have h : n < 12 := by omega
    have e : ((bAndNot .u64 (d.Care.at (n : Int)) (c.Care.at (n : Int)) != 0) || (bAnd .u64 (bXor .u64 (c.Value.at (n : Int)) (d.Value.at (n : Int))) (d.Care.at (n : Int)) != 0)) = !wB c d n := by unfold wB; rw [Bool.not_not]
    rw [space_wider.l0, if_pos (by simp only [decide_eq_true_eq]; omega), if_pos (by omega), e, allFrom_step h, inc n (by omega)]
    cases wB c d n
    · simp
    · simp only [Bool.not_true, Bool.false_eq_true, if_false, Bool.true_and]
      exact wider_l0 k d c r (n + 1) m (by omega) (by omega)
theorem wider_at {k : Nat} (hk : 12 < k) (d c : TCube) : space_wider k d c = some (wC c d) := by
  unfold space_wider wC
  have := wider_l0 k d c 12 0 k rfl hk
  rw [show ((0 : Nat) : Int) = 0 from rfl] at this
  rw [this]
  cases allFrom (wB c d) 0 <;> rfl
theorem wC_iff {c d : TCube} (hc : RC c) (hd : RC d) : wC c d = true ↔ ∀ (i j : Nat), i < 12 → tb (d.Care.at (i : Int)) j = true → tb (c.Care.at (i : Int)) j = true ∧ tb (c.Value.at (i : Int)) j = tb (d.Value.at (i : Int)) j := by
  unfold wC
  rw [allFrom_iff]
  exact ⟨fun h i j hi hj => (wB_iff hc hd hi).1 (h i (Nat.zero_le _) hi) j hj, fun h i _ hi => (wB_iff hc hd hi).2 fun j hj => h i j hi hj⟩
theorem wC_refl {c : TCube} (hc : RC c) : wC c c = true := (wC_iff hc hc).2 fun i j _ h => ⟨h, rfl⟩
theorem wC_trans {c d e : TCube} (hc : RC c) (hd : RC d) (he : RC e) (h : wC c d = true) (k : wC d e = true) : wC c e = true :=
  (wC_iff hc he).2 fun i j hi hj =>
    have a := (wC_iff hd he).1 k i j hi hj
    have b := (wC_iff hc hd).1 h i j hi a.1
    ⟨b.1, b.2.trans a.2⟩
theorem wC_anti {c d : TCube} (hc : SD c) (hd : SD d) (h : wC c d = true) (k : wC d c = true) : c = d := by
  have a := (wC_iff hc.rc hd.rc).1 h
  have b := (wC_iff hd.rc hc.rc).1 k
  have hcare : ∀ i j : Nat, i < 12 → tb (c.Care.at (i : Int)) j = tb (d.Care.at (i : Int)) j := fun i j hi => by
    rw [Bool.eq_iff_iff]
    exact ⟨fun h1 => (b i j hi h1).1, fun h1 => (a i j hi h1).1⟩
  refine SD.ext hc hd (fun i j hi hj => ?_) (fun i j hi hj => hcare i j hi)
  cases h1 : tb (d.Care.at (i : Int)) j
  · have h2 : tb (c.Value.at (i : Int)) j = false := by
      cases h3 : tb (c.Value.at (i : Int)) j
      · rfl
      · rw [← hcare i j hi, hc.ins i j hi h3] at h1; cases h1
    have h4 : tb (d.Value.at (i : Int)) j = false := by
      cases h3 : tb (d.Value.at (i : Int)) j
      · rfl
      · rw [hd.ins i j hi h3] at h1; cases h1
    rw [h2, h4]
  · exact (a i j hi h1).2
theorem has_wider {c d : TCube} (hc : SD c) (hd : SD d) {u : Arr 12} (hu : RG u) (h : wC c d = true) (hh : hasC c u = true) : hasC d u = true := by
  rw [hasC_iff hc.rc hu] at hh
  rw [hasC_iff hd.rc hu]
  refine ⟨hd, hh.2.1, fun q hq hb => ?_⟩
  have := (wC_iff hc.rc hd.rc).1 h q.1 q.2 (mem_pos.1 hq).1 hb
  rw [← this.2]
  exact hh.2.2 q hq this.1

/-! ### Lean -/
def srt (s : List TCube) : List TCube := (s.filter Sb).mergeSort leB
def one (s : List TCube) : List TCube := DD (srt s) (srt s).length
def keepC (L : List TCube) (c : TCube) : Bool := !(L.any fun d => wC c d && !decide (d = c))
def leanC (s : List TCube) : List TCube := (one s).filter (keepC (one s))
theorem srt_len (s : List TCube) : (srt s).length ≤ s.length := by
  unfold srt
  rw [List.length_mergeSort]
  exact List.length_filter_le _ _
theorem one_len (s : List TCube) : (one s).length ≤ s.length := Nat.le_trans (DD_len _ _) (srt_len s)
theorem leanC_len (s : List TCube) : (leanC s).length ≤ s.length := Nat.le_trans (List.length_filter_le _ _) (one_len s)
theorem mem_one {s : List TCube} {x : TCube} : x ∈ one s ↔ x ∈ s ∧ Sb x = true := by
  unfold one
  rw [DD_mem _ _ _ (Nat.le_refl _), List.take_length]
  unfold srt
  rw [sort_mem, List.mem_filter]
theorem one_sorted (s : List TCube) : (one s).Pairwise ltC := DD_sorted (sort_sorted _) _ (Nat.le_refl _)
theorem leanC_sorted (s : List TCube) : (leanC s).Pairwise ltC := (one_sorted s).filter _
theorem mem_leanC {s : List TCube} {x : TCube} : x ∈ leanC s ↔ x ∈ s ∧ Sb x = true ∧ ∀ d ∈ s, Sb d = true → wC x d = true → d = x := by
  unfold leanC
  rw [List.mem_filter, mem_one]
  unfold keepC
  rw [Bool.not_eq_true', List.any_eq_false]
  constructor
  · rintro ⟨⟨h1, h2⟩, h3⟩
    refine ⟨h1, h2, fun d hd hs hw => ?_⟩
    have := h3 d (mem_one.2 ⟨hd, hs⟩)
    rw [hw] at this
    simpa using this
  · rintro ⟨h1, h2, h3⟩
    refine ⟨⟨h1, h2⟩, fun d hd => ?_⟩
    have hd' := mem_one.1 hd
    intro h
    rw [Bool.and_eq_true_iff] at h
    have := h3 d hd'.1 hd'.2 h.1
    simp [this] at h
theorem Lean_l0 (k : Nat) {L : List TCube} (hk : 12 < k) (hl : L.length < k) (hl2 : L.length ≤ 100000) : ∀ (r n m : Nat) (out : List TCube), n + r = L.length → r < m → out.length ≤ n →
    space_Lean.l0 k L m L out L (n : Int) = some (out ++ (L.drop n).filter (keepC L))
  | r, n, 0, _, _, h, _ => by omega
  | 0, n, m + 1, out, hn, _, _ => by
    rw [space_Lean.l0, if_neg (by simp only [decide_eq_true_eq]; omega), List.drop_eq_nil_of_le (by omega), List.filter_nil, List.append_nil]
  | r + 1, n, m + 1, out, hn, hm, ho => by
    have h : n < L.length := by omega
    have hp : ∀ (c : TCube) (l : List TCube), ∀ x ∈ l, space_Lean_2 k x c = some (wC c x && !decide (x = c)) := fun c l x _ => by
      unfold space_Lean_2
      rw [wider_at hk, Option.bind_some, cellsEq_dec]
    have e1 : slices_ContainsFunc_Cube k ((L.take (n : Int).toNat).drop 0) (fun a0 => space_Lean_2 k a0 L[n]) = some ((L.take n).any fun d => wC L[n] d && !decide (d = L[n])) := by
      rw [List.drop_zero, Int.toNat_natCast]
      exact ContainsFunc_at (hp _ _) (by rw [List.length_take]; omega) (by rw [List.length_take]; omega)
    have e2 : slices_ContainsFunc_Cube k ((L.take L.length).drop (n : Int).toNat) (fun a0 => space_Lean_2 k a0 L[n]) = some ((L.drop n).any fun d => wC L[n] d && !decide (d = L[n])) := by
      rw [List.take_length, Int.toNat_natCast]
      exact ContainsFunc_at (hp _ _) (by rw [List.length_drop]; omega) (by rw [List.length_drop]; omega)
    have ek : keepC L L[n] = (!((L.take n).any fun d => wC L[n] d && !decide (d = L[n])) && !((L.drop n).any fun d => wC L[n] d && !decide (d = L[n]))) := by
      have e : ∀ c, keepC L c = (!((L.take n).any fun d => wC c d && !decide (d = c)) && !((L.drop n).any fun d => wC c d && !decide (d = c))) := fun c => by
        unfold keepC
        conv => lhs; rw [← List.take_append_drop n L]
        rw [List.any_append, Bool.not_or]
      exact e _
    rw [space_Lean.l0, if_pos (by simp only [decide_eq_true_eq]; omega), idx_nat h, Option.bind_some, if_pos (by omega), e1, Option.bind_some, List.drop_eq_getElem_cons h, List.filter_cons, ek]
    cases (L.take n).any fun d => wC L[n] d && !decide (d = L[n])
    · simp only [Bool.not_false, if_true, Bool.true_and]
      rw [if_pos (by omega), e2]
      cases (L.drop n).any fun d => wC L[n] d && !decide (d = L[n])
      · simp only [Option.bind_some, Bool.not_false, if_true]
        rw [app_some (by rw [List.length_singleton]; omega)]
        simp only [Option.bind_some]
        rw [inc n (by omega), Lean_l0 k hk hl hl2 r (n + 1) m _ (by omega) (by omega) (by rw [List.length_append, List.length_singleton]; omega)]
        simp
      · simp only [Option.bind_some, Bool.not_true, Bool.false_eq_true, if_false]
        rw [inc n (by omega), Lean_l0 k hk hl hl2 r (n + 1) m _ (by omega) (by omega) (by omega)]
    · simp only [Option.bind_some, Bool.not_true, Bool.false_eq_true, if_false, Bool.false_and]
      rw [inc n (by omega), Lean_l0 k hk hl hl2 r (n + 1) m _ (by omega) (by omega) (by omega)]
theorem space_Lean_at {k : Nat} (hk : 12 < k) {s : List TCube} (hs : ∀ c ∈ s, RC c) (hl : s.length < k) (hl2 : s.length ≤ 100000) : space_Lean k s = some (leanC s) := by
  unfold space_Lean slices_Clone_Cube
  rw [app_some (by simp; omega), List.nil_append, Option.bind_some, Option.bind_some, DeleteFunc_at (q := fun c => !Sb c) (fun x hx => by unfold space_Lean_1; rw [cube_Sound_at hk (hs x hx)]; rfl) (by omega) hl, Option.bind_some]
  have hf : (s.filter fun x => !!Sb x) = s.filter Sb := by simp
  have hfl : (s.filter Sb).length ≤ s.length := List.length_filter_le _ _
  rw [hf, SortFunc_at hk (by omega), Option.bind_some]
  have h1 := srt_len s
  have h2 := one_len s
  show (slices_Compact_Cube k (srt s)).bind _ = _
  rw [Compact_at (by omega) (by omega), Option.bind_some]
  show (space_Lean.l0 k (one s) k (one s) [] (one s) 0).bind _ = _
  have := Lean_l0 k hk (L := one s) (by omega) (by omega) (one s).length 0 k [] (by omega) (by omega) (by simp)
  rw [show ((0 : Nat) : Int) = 0 from rfl] at this
  rw [this]
  simp only [Option.bind_some, List.nil_append, List.drop_zero]
  rfl
theorem leanC_RC {s : List TCube} (hs : ∀ c ∈ s, RC c) : ∀ c ∈ leanC s, SD c := fun c hc => (Sb_iff (hs c (mem_leanC.1 hc).1)).1 (mem_leanC.1 hc).2.1
/-- Above each sound cube there is one that is kept. -/
theorem above {s : List TCube} (hs : ∀ c ∈ s, RC c) : ∀ (n : Nat) (c : TCube), ((s.filter fun d => Sb d && wC c d && !decide (d = c)).length ≤ n) → c ∈ s → Sb c = true → ∃ d ∈ leanC s, wC c d = true
  | n, c, hn, hc, hb => by
    by_cases h : ∀ d ∈ s, Sb d = true → wC c d = true → d = c
    · exact ⟨c, mem_leanC.2 ⟨hc, hb, h⟩, wC_refl (hs c hc)⟩
    · have ⟨d, hd⟩ : ∃ d, d ∈ s ∧ Sb d = true ∧ wC c d = true ∧ d ≠ c := by
        apply Classical.byContradiction
        intro h'
        exact h fun d h1 h2 h3 => Classical.byContradiction fun h4 => h' ⟨d, h1, h2, h3, h4⟩
      obtain ⟨h1, h2, h3, h4⟩ := hd
      have hcS := (Sb_iff (hs c hc)).1 hb
      have hdS := (Sb_iff (hs d h1)).1 h2
      have hlt : (s.filter fun e => Sb e && wC d e && !decide (e = d)).length < (s.filter fun e => Sb e && wC c e && !decide (e = c)).length := by
        have hsub : ∀ e ∈ s, (Sb e && wC d e && !decide (e = d)) = true → (Sb e && wC c e && !decide (e = c)) = true := fun e he hh => by
          simp only [Bool.and_eq_true, Bool.not_eq_true', decide_eq_false_iff_not] at hh ⊢
          have heS := (Sb_iff (hs e he)).1 hh.1.1
          refine ⟨⟨hh.1.1, wC_trans hcS.rc hdS.rc heS.rc h3 hh.1.2⟩, fun h5 => ?_⟩
          subst h5
          exact h4 (wC_anti hdS hcS hh.1.2 h3)
        have e1 : (s.filter fun e => Sb e && wC d e && !decide (e = d)) = (s.filter fun e => Sb e && wC c e && !decide (e = c)).filter (fun e => Sb e && wC d e && !decide (e = d)) := by
          rw [List.filter_filter]
          refine List.filter_congr fun e he => ?_
          cases hh : (Sb e && wC d e && !decide (e = d))
          · rfl
          · rw [hsub e he hh]; rfl
        rw [e1]
        refine List.length_filter_lt_length_iff_exists.2 ⟨d, List.mem_filter.2 ⟨h1, ?_⟩, ?_⟩
        · simp [h2, h3, h4]
        · simp
      match n, hn with
      | 0, hn => omega
      | n + 1, hn =>
        obtain ⟨e, he, hw⟩ := above hs n d (by omega) h1 h2
        exact ⟨e, he, wC_trans hcS.rc hdS.rc (leanC_RC hs e he).rc h3 hw⟩
theorem leanC_has {s : List TCube} (hs : ∀ c ∈ s, RC c) {u : Arr 12} (hu : RG u) : ((leanC s).any fun c => hasC c u) = s.any fun c => hasC c u := by
  rw [Bool.eq_iff_iff, List.any_eq_true, List.any_eq_true]
  constructor
  · rintro ⟨c, hc, h⟩
    exact ⟨c, (mem_leanC.1 hc).1, h⟩
  · rintro ⟨c, hc, h⟩
    have hS := ((hasC_iff (hs c hc) hu).1 h).1
    obtain ⟨d, hd, hw⟩ := above hs _ c (Nat.le_refl _) hc ((Sb_iff (hs c hc)).2 hS)
    exact ⟨d, hd, has_wider hS (leanC_RC hs d hd) hu hw h⟩
end Go.Proofs.Ytangebngeeamoaa
