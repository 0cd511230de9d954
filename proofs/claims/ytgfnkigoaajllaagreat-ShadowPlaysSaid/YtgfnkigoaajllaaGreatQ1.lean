/- Plain laws on cubes: their order, wider ones. -/
import Derived.Test.YtgfnkigoaajllaaGreatG5
import Derived.Test.YtgfnkigoaajllaaGreatL16
set_option linter.unusedVariables false
set_option linter.unusedSimpArgs false
set_option maxRecDepth 100000
namespace Go.Proofs.YtgfnkigoaajllaaGreat
open Go.RowKit Go.Pod
instance : DecidableEq TCube := fun a b => decidable_of_iff _ (cellsEq_cube a b)
theorem cellsEq_dec (a b : TCube) : cellsEq (TCube.enc a) (TCube.enc b) = decide (a = b) := by
  rw [Bool.eq_iff_iff, cellsEq_cube, decide_eq_true_eq]
theorem filter_keep {α : Type} {q : α → Bool} : ∀ {l : List α}, (∀ x ∈ l, q x = true) → l.filter q = l := fun h => List.filter_eq_self.2 h
/-! ### The order -/
def cmpL : List Int → List Int → Int
  | x :: xs, y :: ys => if x < y then -1 else if y < x then 1 else cmpL xs ys
  | _, _ => 0
theorem cmpL_self : ∀ xs : List Int, cmpL xs xs = 0
  | [] => rfl
  | x :: xs => by rw [cmpL, if_neg (Int.lt_irrefl x), if_neg (Int.lt_irrefl x)]; exact cmpL_self xs
theorem cmpL_anti : ∀ xs ys : List Int, cmpL ys xs = - cmpL xs ys
  | [], [] | [], _ :: _ | _ :: _, [] => rfl
  | x :: xs, y :: ys => by
    simp only [cmpL]
    have := cmpL_anti xs ys
    by_cases h1 : x < y
    · rw [if_neg (by omega), if_pos h1, if_pos h1]; rfl
    · by_cases h2 : y < x
      · rw [if_pos h2, if_neg h1, if_pos h2]
      · rw [if_neg h2, if_neg h1, if_neg h1, if_neg h2]; exact this
theorem cmpL_zero : ∀ xs ys : List Int, xs.length = ys.length → cmpL xs ys = 0 → xs = ys
  | [], [], _, _ => rfl
  | [], _ :: _, h, _ => by simp at h
  | _ :: _, [], h, _ => by simp at h
  | x :: xs, y :: ys, h, h0 => by
    simp only [cmpL] at h0
    by_cases h1 : x < y
    · rw [if_pos h1] at h0; cases h0
    · by_cases h2 : y < x
      · rw [if_neg h1, if_pos h2] at h0; cases h0
      · rw [if_neg h1, if_neg h2] at h0
        rw [cmpL_zero xs ys (by simpa using h) h0, show x = y by omega]
theorem cmpL_trans : ∀ xs ys zs : List Int, xs.length = ys.length → ys.length = zs.length → cmpL xs ys ≤ 0 → cmpL ys zs ≤ 0 → cmpL xs zs ≤ 0
  | [], [], [], _, _, _, _ => Int.le_refl _
  | [], _ :: _, _, h, _, _, _ => by simp at h
  | _ :: _, [], _, h, _, _, _ => by simp at h
  | _, [], _ :: _, _, h, _, _ => by simp at h
  | _, _ :: _, [], _, h, _, _ => by simp at h
  | x :: xs, y :: ys, z :: zs, h, h', h1, h2 => by
    simp only [cmpL] at *
    have ih := cmpL_trans xs ys zs (by simpa using h) (by simpa using h')
    by_cases a : x < z
    · rw [if_pos a]; omega
    · rw [if_neg a]
      by_cases b : x < y
      · rw [if_neg (by omega), if_pos (by omega)] at h2; omega
      · rw [if_neg b] at h1
        by_cases c : y < x
        · rw [if_pos c] at h1; omega
        · rw [if_neg c] at h1
          obtain rfl : x = y := by omega
          rw [if_neg a] at h2
          by_cases d : z < x
          · rw [if_pos d] at h2; omega
          · rw [if_neg d] at h2; rw [if_neg d]; exact ih h1 h2
theorem cmpL_app : ∀ (xs ys us vs : List Int), xs.length = ys.length → cmpL (xs ++ us) (ys ++ vs) = if cmpL xs ys = 0 then cmpL us vs else cmpL xs ys
  | [], [], us, vs, _ => by rw [List.nil_append, List.nil_append, show cmpL [] [] = 0 from rfl, if_pos rfl]
  | [], _ :: _, _, _, h => by simp at h
  | _ :: _, [], _, _, h => by simp at h
  | x :: xs, y :: ys, us, vs, h => by
    rw [List.cons_append, List.cons_append]
    have ih := cmpL_app xs ys us vs (by simpa using h)
    by_cases h1 : x < y
    · have e : ∀ l l', cmpL (x :: l) (y :: l') = -1 := fun l l' => by rw [cmpL, if_pos h1]
      rw [e, e, if_neg (by decide)]
    · by_cases h2 : y < x
      · have e : ∀ l l', cmpL (x :: l) (y :: l') = 1 := fun l l' => by rw [cmpL, if_neg h1, if_pos h2]
        rw [e, e, if_neg (by decide)]
      · have e : ∀ l l', cmpL (x :: l) (y :: l') = cmpL l l' := fun l l' => by rw [cmpL, if_neg h1, if_neg h2]
        rw [e, e]; exact ih
def keyC (c : TCube) : List Int := A12u64.list c.Care ++ A12u64.list c.Value
theorem keyC_len (c : TCube) : (keyC c).length = 24 := rfl
theorem keyC_inj {c d : TCube} (h : keyC c = keyC d) : c = d := by
  apply (cellsEq_cube c d).1
  simp only [keyC, A12u64.list, List.cons_append, List.nil_append, List.cons.injEq, and_true] at h
  simp only [TCube.enc, cellsEq, leafEq, Bool.and_eq_true, beq_iff_eq, Bool.and_true]
  simp only [h, and_self]
def cc (a b : TCube) : Int := cmpL (keyC a) (keyC b)
theorem cc_self (a : TCube) : cc a a = 0 := cmpL_self _
theorem cc_anti (a b : TCube) : cc b a = - cc a b := cmpL_anti _ _
theorem cc_zero {a b : TCube} (h : cc a b = 0) : a = b := keyC_inj (cmpL_zero _ _ rfl h)
theorem cc_trans {a b c : TCube} (h : cc a b ≤ 0) (k : cc b c ≤ 0) : cc a c ≤ 0 := cmpL_trans (keyC a) (keyC b) (keyC c) rfl rfl h k
def ltC (a b : TCube) : Prop := cc a b < 0
theorem ltC.trans {a b c : TCube} (h : ltC a b) (k : ltC b c) : ltC a c := by
  unfold ltC at *
  rcases Int.lt_or_eq_of_le (cc_trans (Int.le_of_lt h) (Int.le_of_lt k)) with h1 | h1
  · exact h1
  · have := cc_zero h1
    subst this
    have := cc_anti a b
    omega
theorem ltC.irrefl (a : TCube) : ¬ ltC a a := by unfold ltC; rw [cc_self]; omega
theorem ltC.le {a b c : TCube} (h : cc a b ≤ 0) (k : ltC b c) : ltC a c := by
  rcases Int.lt_or_eq_of_le h with h1 | h1
  · exact ltC.trans h1 k
  · rw [cc_zero h1]; exact k
/-- Two rows in order with the same cubes are one. -/
theorem sorted_one : ∀ (xs ys : List TCube), xs.Pairwise ltC → ys.Pairwise ltC → (∀ x, x ∈ xs ↔ x ∈ ys) → xs = ys
  | [], ys, _, _, h => by
    cases ys with
    | nil => rfl
    | cons y ys => exact absurd ((h y).2 (by simp)) (by simp)
  | x :: xs, [], _, _, h => absurd ((h x).1 (by simp)) (by simp)
  | x :: xs, y :: ys, h1, h2, h => by
    rw [List.pairwise_cons] at h1 h2
    have e : x = y := by
      rcases List.mem_cons.1 ((h x).1 (by simp)) with h3 | h3
      · exact h3
      · rcases List.mem_cons.1 ((h y).2 (by simp)) with h4 | h4
        · exact h4.symm
        · exact absurd (ltC.trans (h1.1 _ h4) (h2.1 _ h3)) (ltC.irrefl _)
    subst e
    rw [sorted_one xs ys h1.2 h2.2]
    intro z
    constructor
    · intro hz
      rcases List.mem_cons.1 ((h z).1 (List.mem_cons_of_mem _ hz)) with h3 | h3
      · subst h3; exact absurd (h1.1 _ hz) (ltC.irrefl _)
      · exact h3
    · intro hz
      rcases List.mem_cons.1 ((h z).2 (List.mem_cons_of_mem _ hz)) with h3 | h3
      · subst h3; exact absurd (h2.1 _ hz) (ltC.irrefl _)
      · exact h3

/-! ### The program's comparison -/
theorem cmp_Compare_at (x y : Int) : cmp_Compare_uint64 x y = some (if x < y then -1 else if y < x then 1 else 0) := by
  unfold cmp_Compare_uint64 cmp_isNaN_uint64
  simp only [bne_self_eq_false, Option.bind_some, Bool.false_eq_true, if_false, decide_eq_true_eq]
  split
  · rfl
  · split <;> rfl
theorem CompareFunc_l0 (k : Nat) {xs ys : List Int} (hxy : xs.length = ys.length) (hl : xs.length < 2 ^ 62) : ∀ (r n m : Nat), n + r = xs.length → r < m →
    slices_CompareFunc_uint64.l0 k xs ys (fun a b => cmp_Compare_uint64 a b) m (n : Int) = some (if cmpL (xs.drop n) (ys.drop n) = 0 then .brk () else .ret (cmpL (xs.drop n) (ys.drop n)))
  | r, n, 0, _, h => by omega
  | 0, n, m + 1, hn, _ => by
    rw [slices_CompareFunc_uint64.l0, if_neg (by simp only [decide_eq_true_eq]; omega), List.drop_eq_nil_of_le (by omega), cmpL]
    · rfl
    · intro _ _ _ _ h; cases h
  | r + 1, n, m + 1, hn, hm => by
    have h : n < xs.length := by omega
    have h' : n < ys.length := by omega
    rw [slices_CompareFunc_uint64.l0, if_pos (by simp only [decide_eq_true_eq]; omega), idx_nat h, Option.bind_some, if_neg (by simp only [decide_eq_true_eq]; omega), idx_nat h', Option.bind_some, cmp_Compare_at, Option.bind_some,
      List.drop_eq_getElem_cons h, List.drop_eq_getElem_cons h', cmpL]
    by_cases h1 : xs[n] < ys[n]
    · simp [h1]
    · by_cases h2 : ys[n] < xs[n]
      · simp [h1, h2]
      · simp only [h1, h2, if_false, bne_self_eq_false, Bool.false_eq_true]
        rw [inc n (by omega)]
        exact CompareFunc_l0 k hxy hl r (n + 1) m (by omega) (by omega)
theorem head_Compare_at {k : Nat} (hk : 12 < k) (a b : Arr 12) : head_Compare k a b = some (cmpL (A12u64.list a) (A12u64.list b)) := by
  unfold head_Compare slices_CompareFunc_uint64
  have := CompareFunc_l0 k (xs := A12u64.list a) (ys := A12u64.list b) rfl (by show 12 < 2 ^ 62; decide) 12 0 k rfl hk
  rw [show ((0 : Nat) : Int) = 0 from rfl, List.drop_zero, List.drop_zero] at this
  rw [this]
  by_cases h : cmpL (A12u64.list a) (A12u64.list b) = 0
  · rw [if_pos h, h]; rfl
  · rw [if_neg h]; rfl
theorem cmp_Or_at {k : Nat} (hk : 12 < k) (x y : Int) : cmp_Or_int k [x, y] = some (if x = 0 then y else x) := by
  obtain ⟨m, rfl⟩ : ∃ m, k = m + 3 := ⟨k - 3, by omega⟩
  unfold cmp_Or_int
  rw [cmp_Or_int.l0, if_pos (by simp), show idx [x, y] 0 = some x from rfl, Option.bind_some]
  by_cases h : x = 0
  · subst h
    rw [if_neg (by simp), cmp_Or_int.l0, if_pos (show decide (IntKind.i64.wrap (0 + 1) < (([0, y] : List Int).length : Int)) = true from rfl), show idx [0, y] (IntKind.i64.wrap (0 + 1)) = some y from rfl, Option.bind_some, if_pos rfl]
    by_cases h2 : y = 0
    · subst h2
      rw [if_neg (by simp), cmp_Or_int.l0, if_neg (show ¬ decide (IntKind.i64.wrap (IntKind.i64.wrap (0 + 1) + 1) < (([0, 0] : List Int).length : Int)) = true from by decide)]; rfl
    · rw [if_pos (by simpa using h2)]; rfl
  · rw [if_pos (by simpa using h), if_neg h]; rfl
theorem cube_Compare_at {k : Nat} (hk : 12 < k) (a b : TCube) : cube_Compare k a b = some (cc a b) := by
  unfold cube_Compare
  rw [head_Compare_at hk, Option.bind_some, head_Compare_at hk, Option.bind_some, cmp_Or_at hk, Option.bind_some]
  unfold cc keyC
  rw [cmpL_app (A12u64.list a.Care) (A12u64.list b.Care) _ _ rfl]
/-! ### Wider -/
def wC (c d : TCube) : Bool := allFrom (wB c d) 0
theorem wC_iff {c d : TCube} (hc : RC c) (hd : RC d) : wC c d = true ↔ ∀ (i j : Nat), i < 12 → tb (d.Care.at (i : Int)) j = true → tb (c.Care.at (i : Int)) j = true ∧ tb (c.Value.at (i : Int)) j = tb (d.Value.at (i : Int)) j := by
  unfold wC
  rw [allFrom_iff]
  exact ⟨fun h i j hi hj => (wB_iff hc hd hi).1 (h i (Nat.zero_le _) hi) j hj, fun h i _ hi => (wB_iff hc hd hi).2 fun j hj => h i j hi hj⟩
theorem wC_refl {c : TCube} (hc : RC c) : wC c c = true := (wC_iff hc hc).2 fun i j _ h => ⟨h, rfl⟩
theorem wC_trans {c d e : TCube} (hc : RC c) (hd : RC d) (he : RC e) (h : wC c d = true) (k : wC d e = true) : wC c e = true :=
  (wC_iff hc he).2 fun i j hi hj =>
    have a := (wC_iff hd he).1 k i j hi hj
    have b := (wC_iff hc hd).1 h i j hi a.1
    ⟨b.1, b.2.trans a.2⟩
theorem wC_anti {c d : TCube} (hc : SD c) (hd : SD d) (h : wC c d = true) (k : wC d c = true) : c = d := by
  have a := (wC_iff hc.rc hd.rc).1 h
  have b := (wC_iff hd.rc hc.rc).1 k
  have hcare : ∀ i j : Nat, i < 12 → tb (c.Care.at (i : Int)) j = tb (d.Care.at (i : Int)) j := fun i j hi => by
    rw [Bool.eq_iff_iff]
    exact ⟨fun h1 => (b i j hi h1).1, fun h1 => (a i j hi h1).1⟩
  refine SD.ext hc hd (fun i j hi hj => ?_) (fun i j hi hj => hcare i j hi)
  cases h1 : tb (d.Care.at (i : Int)) j
  · have h2 : tb (c.Value.at (i : Int)) j = false := by
      cases h3 : tb (c.Value.at (i : Int)) j
      · rfl
      · rw [← hcare i j hi, hc.ins i j hi h3] at h1; cases h1
    have h4 : tb (d.Value.at (i : Int)) j = false := by
      cases h3 : tb (d.Value.at (i : Int)) j
      · rfl
      · rw [hd.ins i j hi h3] at h1; cases h1
    rw [h2, h4]
  · exact (a i j hi h1).2
theorem has_wider {c d : TCube} (hc : SD c) (hd : SD d) {u : Arr 12} (hu : RG u) (h : wC c d = true) (hh : hasC c u = true) : hasC d u = true := by
  rw [hasC_iff hc.rc hu] at hh
  rw [hasC_iff hd.rc hu]
  refine ⟨hd, hh.2.1, fun q hq hb => ?_⟩
  have := (wC_iff hc.rc hd.rc).1 h q.1 q.2 (mem_pos.1 hq).1 hb
  rw [← this.2]
  exact hh.2.2 q hq this.1

end Go.Proofs.YtgfnkigoaajllaaGreat
