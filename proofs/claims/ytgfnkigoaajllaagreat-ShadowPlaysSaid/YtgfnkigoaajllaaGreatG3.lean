/- Plain laws on the reference's cubes that are read from texts. -/
import Derived.Test.YtgfnkigoaajllaaGreatF2
set_option linter.unusedVariables false
set_option linter.unusedSimpArgs false
set_option maxRecDepth 100000
namespace Go.Proofs.YtgfnkigoaajllaaGreat
open Go.RowKit Go.Pod

theorem upd_upd {n : Nat} (x : Arr n) (i v w : Int) : (x.upd i v).upd i w = x.upd i w := by
  funext j; unfold Arr.upd; cases Nat.beq j.val i.toNat <;> rfl
theorem at_upd_self {x : Arr 12} {i : Nat} (h : i < 12) (v : Int) : (x.upd (i : Int) v).at (i : Int) = v := by rw [Arr.at_upd x h, if_pos rfl]
theorem upd_self {x : Arr 12} {i : Nat} (h : i < 12) : x.upd (i : Int) (x.at (i : Int)) = x := by
  refine Arr.ext fun j hj => ?_
  rw [Arr.at_upd x hj]
  by_cases e : j = i
  · rw [if_pos e, e]
  · rw [if_neg e]
def fv (a : Int) (x : Int) : Int := a * 2 + if x == 49 then 1 else 0
def fc (a : Int) (x : Int) : Int := a * 2 + if x != 120 then 1 else 0
theorem fv_bd {a x : Int} {n : Nat} (h0 : 0 ≤ a) (h : a < 2 ^ n) : 0 ≤ fv a x ∧ fv a x < 2 ^ (n + 1) := by
  unfold fv; rw [Int.pow_succ]; split <;> omega
theorem fc_bd {a x : Int} {n : Nat} (h0 : 0 ≤ a) (h : a < 2 ^ n) : 0 ≤ fc a x ∧ fc a x < 2 ^ (n + 1) := by
  unfold fc; rw [Int.pow_succ]; split <;> omega
theorem fv_num (f : Nat → Int) (s : Nat) : ((List.range s).reverse.map f).foldl fv 0 = ((num (fun j => f j == 49) s : Nat) : Int) := by
  have h : ∀ (l : List Int) (a : Nat), l.foldl fv (a : Int) = (((l.map (· == 49)).foldl (fun a b => a * 2 + b.toNat) a : Nat) : Int) := by
    intro l
    induction l with
    | nil => intro a; rfl
    | cons x l ih =>
      intro a
      rw [List.foldl_cons, List.map_cons, List.foldl_cons, ← ih]
      congr 1
      unfold fv
      cases x == 49 <;> simp
  have := h ((List.range s).reverse.map f) 0
  rw [show ((0 : Nat) : Int) = 0 from rfl, List.map_map] at this
  rw [this]
  have h2 := foldl_bits (fun j => f j == 49) s 0
  rw [Nat.zero_mul, Nat.zero_add] at h2
  rw [← h2]
  rfl
theorem fc_num (f : Nat → Int) (s : Nat) : ((List.range s).reverse.map f).foldl fc 0 = ((num (fun j => f j != 120) s : Nat) : Int) := by
  have h : ∀ (l : List Int) (a : Nat), l.foldl fc (a : Int) = (((l.map (· != 120)).foldl (fun a b => a * 2 + b.toNat) a : Nat) : Int) := by
    intro l
    induction l with
    | nil => intro a; rfl
    | cons x l ih =>
      intro a
      rw [List.foldl_cons, List.map_cons, List.foldl_cons, ← ih]
      congr 1
      unfold fc
      cases x != 120 <;> simp
  have := h ((List.range s).reverse.map f) 0
  rw [show ((0 : Nat) : Int) = 0 from rfl, List.map_map] at this
  rw [this]
  have h2 := foldl_bits (fun j => f j != 120) s 0
  rw [Nat.zero_mul, Nat.zero_add] at h2
  rw [← h2]
  rfl
theorem wrap_sm {a : Int} (h0 : 0 ≤ a) (h : a < 2 ^ 60) : IntKind.u64.wrap a = a := wrap64 ⟨h0, by omega⟩
theorem byteAt_split {pre post : List Int} {x : Int} (h : Byt (pre ++ x :: post)) : byteAt (strOfNums (pre ++ x :: post)) (pre.length : Int) = x := by
  rw [byteAt_nums h (by simp)]
  simp
theorem ref01_From_l1 (k : Nat) {i : Nat} (hi : i < 12) : ∀ (l pre post : List Int) (c : TCube) (n m : Nat), n + l.length = sz i → l.length < m → Byt (pre ++ (l ++ post)) →
    pre.length + l.length < 100000 → 0 ≤ c.Value.at (i : Int) → c.Value.at (i : Int) < 2 ^ n → 0 ≤ c.Care.at (i : Int) → c.Care.at (i : Int) < 2 ^ n →
    ref01_From.l1 k (strOfNums (pre ++ (l ++ post))) (i : Int) m c (pre.length : Int) (n : Int) =
      some (⟨c.Value.upd (i : Int) (l.foldl fv (c.Value.at (i : Int))), c.Care.upd (i : Int) (l.foldl fc (c.Care.at (i : Int)))⟩, ((pre.length + l.length : Nat) : Int))
  | l, pre, post, c, n, 0, _, h, _, _, _, _, _, _ => by omega
  | [], pre, post, c, n, m + 1, hn, _, _, _, _, _, _, _ => by
    simp only [List.length_nil, Nat.add_zero] at hn
    rw [ref01_From.l1, ref01_Size_at hi, Option.bind_some, if_neg (by simp only [decide_eq_true_eq]; omega)]
    simp only [List.foldl_nil, upd_self hi, List.length_nil, Nat.add_zero]
  | x :: l, pre, post, c, n, m + 1, hn, hm, hB, hp, hv0, hv1, hc0, hc1 => by
    have hs : sz i ≤ 48 := sz_le
    simp only [List.length_cons] at hn hm hp
    have p60 : (2 : Int) ^ n ≤ 2 ^ 48 := by
      have : 2 ^ n ≤ 2 ^ 48 := Nat.pow_le_pow_right (by omega) (by omega)
      exact_mod_cast this
    have hx : byteAt (strOfNums (pre ++ (x :: l ++ post))) (pre.length : Int) = x := byteAt_split (post := l ++ post) hB
    have hsz : ((pre.length : Nat) : Int) < ((strOfNums (pre ++ (x :: l ++ post))).size : Int) := by rw [strOfNums_size]; simp; omega
    rw [ref01_From.l1, ref01_Size_at hi, Option.bind_some, if_pos (by simp only [decide_eq_true_eq]; omega), if_pos (by omega), if_pos ⟨by omega, hsz⟩, hx]
    rw [inc n (by omega), inc pre.length (by omega)]
    have w1 : IntKind.u64.wrap (c.Value.at (i : Int) * 2) = c.Value.at (i : Int) * 2 := wrap_sm (by omega) (by omega)
    have w2 : IntKind.u64.wrap (c.Care.at (i : Int) * 2) = c.Care.at (i : Int) * 2 := wrap_sm (by omega) (by omega)
    have w3 : IntKind.u64.wrap (c.Value.at (i : Int) * 2 + 1) = c.Value.at (i : Int) * 2 + 1 := wrap_sm (by omega) (by omega)
    have w4 : IntKind.u64.wrap (c.Care.at (i : Int) * 2 + 1) = c.Care.at (i : Int) * 2 + 1 := wrap_sm (by omega) (by omega)
    have bv := fv_bd (x := x) hv0 hv1
    have bc := fc_bd (x := x) hc0 hc1
    have ih := ref01_From_l1 k hi l (pre ++ [x]) post ⟨c.Value.upd (i : Int) (fv (c.Value.at (i : Int)) x), c.Care.upd (i : Int) (fc (c.Care.at (i : Int)) x)⟩ (n + 1) m (by omega) (by omega) (by simpa using hB)
      (by simp; omega) (by simp only [at_upd_self hi]; exact bv.1) (by simp only [at_upd_self hi]; exact bv.2) (by simp only [at_upd_self hi]; exact bc.1) (by simp only [at_upd_self hi]; exact bc.2)
    simp only [at_upd_self hi, upd_upd, List.append_assoc, List.cons_append, List.nil_append, List.length_append, List.length_cons, List.length_nil, Nat.zero_add] at ih
    have e1 : pre.length + 1 + l.length = pre.length + (l.length + 1) := by omega
    rw [e1] at ih
    simp only [List.cons_append, List.foldl_cons, List.length_cons]
    rw [← ih]
    simp only [TCube.setValue, at_upd_self hi, upd_upd, w1, w2, w3, w4]
    unfold fv fc
    cases h1 : (x != 120) <;> cases h2 : (x == 49) <;> simp [h1, h2, at_upd_self hi, upd_upd, w3]
/-- The cube whose letters these are. -/
def cubeTo (f : Nat × Nat → Int) (n : Nat) : TCube :=
  ⟨fun i => if i.val < n then ((num (fun j => f (i.val, j) == 49) (sz i.val) : Nat) : Int) else 0, fun i => if i.val < n then ((num (fun j => f (i.val, j) != 120) (sz i.val) : Nat) : Int) else 0⟩
def cubeOf (f : Nat × Nat → Int) : TCube := cubeTo f 12
theorem cubeTo_v (f : Nat × Nat → Int) (n : Nat) {i : Nat} (h : i < 12) : (cubeTo f n).Value.at (i : Int) = if i < n then ((num (fun j => f (i, j) == 49) (sz i) : Nat) : Int) else 0 := Arr.at_nat _ h
theorem cubeTo_c (f : Nat × Nat → Int) (n : Nat) {i : Nat} (h : i < 12) : (cubeTo f n).Care.at (i : Int) = if i < n then ((num (fun j => f (i, j) != 120) (sz i) : Nat) : Int) else 0 := Arr.at_nat _ h
theorem TCube.ext' {c d : TCube} (h1 : c.Value = d.Value) (h2 : c.Care = d.Care) : c = d := by cases c; cases d; simp_all
theorem ref01_From_l0 {k : Nat} (hk : 64 < k) (f : Nat × Nat → Int) (hf : Byt (pos.map f)) : ∀ (r n m : Nat) (pre : List Int), n + r = 12 → r < m → pos.map f = pre ++ (posFrom n).map f →
    ref01_From.l0 k (textOf f) m (cubeTo f n) (pre.length : Int) (n : Int) = some (cubeOf f)
  | r, n, 0, _, _, h, _ => by omega
  | 0, n, m + 1, pre, hn, _, _ => by
    obtain rfl : n = 12 := by omega
    rw [ref01_From.l0, if_neg (by decide)]
    rfl
  | r + 1, n, m + 1, pre, hn, hm, hp => by
    have h12 : n < 12 := by omega
    have h48 : sz n ≤ 48 := sz_le
    have hl : (pos.map f).length = 248 := by rw [List.length_map, pos_len]
    have hpl : pre.length + (posFrom n).length = 248 := by rw [← hl, hp]; simp
    rw [posFrom_step h12, List.map_append] at hp
    rw [ref01_From.l0, if_pos (by simp only [decide_eq_true_eq]; omega), inc n (by omega)]
    have hv : (cubeTo f n).Value.at (n : Int) = 0 := by rw [cubeTo_v f n h12, if_neg (by omega)]
    have hc : (cubeTo f n).Care.at (n : Int) = 0 := by rw [cubeTo_c f n h12, if_neg (by omega)]
    have h1 := ref01_From_l1 k h12 ((posF n).map f) pre ((posFrom (n + 1)).map f) (cubeTo f n) 0 k (by simp [posF_len]) (by simp [posF_len]; omega) (by rw [← hp]; exact hf)
      (by simp [posF_len]; omega) (by rw [hv]; decide) (by rw [hv]; decide) (by rw [hc]; decide) (by rw [hc]; decide)
    rw [hv, hc, show ((0 : Nat) : Int) = 0 from rfl] at h1
    unfold textOf
    rw [hp, h1, Option.bind_some]
    have e : (⟨(cubeTo f n).Value.upd (n : Int) (((posF n).map f).foldl fv 0), (cubeTo f n).Care.upd (n : Int) (((posF n).map f).foldl fc 0)⟩ : TCube) = cubeTo f (n + 1) := by
      have e1 : ((posF n).map f) = ((List.range (sz n)).reverse.map fun j => f (n, j)) := by unfold posF; rw [List.map_map]; rfl
      rw [e1, fv_num, fc_num]
      refine TCube.ext' (Arr.ext fun i hi => ?_) (Arr.ext fun i hi => ?_)
      · rw [Arr.at_upd _ hi, cubeTo_v f _ hi, cubeTo_v f _ hi]
        by_cases e : i = n
        · subst e; simp
        · rw [if_neg e]; by_cases h : i < n
          · rw [if_pos h, if_pos (by omega)]
          · rw [if_neg h, if_neg (by omega)]
      · rw [Arr.at_upd _ hi, cubeTo_c f _ hi, cubeTo_c f _ hi]
        by_cases e : i = n
        · subst e; simp
        · rw [if_neg e]; by_cases h : i < n
          · rw [if_pos h, if_pos (by omega)]
          · rw [if_neg h, if_neg (by omega)]
    have ih := ref01_From_l0 hk f hf r (n + 1) m (pre ++ (posF n).map f) (by omega) (by omega) (by rw [hp]; simp)
    unfold textOf at ih
    rw [hp] at ih
    simp only [e]
    rw [List.length_append] at ih
    exact ih
theorem ref01_From_at {k : Nat} (hk : 64 < k) {f : Nat × Nat → Int} (hf : Byt (pos.map f)) : ref01_From k (textOf f) = some (cubeOf f) := by
  unfold ref01_From
  have h0 : TCube.zero = cubeTo f 0 := by
    refine TCube.ext' (Arr.ext fun i hi => ?_) (Arr.ext fun i hi => ?_)
    · rw [cubeTo_v f 0 hi, if_neg (by omega)]; exact Arr.at_nat _ hi
    · rw [cubeTo_c f 0 hi, if_neg (by omega)]; exact Arr.at_nat _ hi
  have := ref01_From_l0 hk f hf 12 0 k [] rfl (by omega) rfl
  rw [h0, show (0 : Int) = ((0 : Nat) : Int) from rfl]
  rw [show (([] : List Int).length : Int) = ((0 : Nat) : Int) from rfl] at this
  rw [this]
  rfl
/-! ### Letters and bits -/
def Let (x : Int) : Prop := x = 48 ∨ x = 49 ∨ x = 120
theorem lt_let (c : TCube) (q : Nat × Nat) : Let (lt c q) := by
  unfold lt Let; cases tb (c.Care.at (q.1 : Int)) q.2 <;> cases tb (c.Value.at (q.1 : Int)) q.2 <;> simp
theorem ltW_let (x : Arr 12) (q : Nat × Nat) : Let (ltW x q) := by
  unfold ltW Let; cases tb (x.at (q.1 : Int)) q.2 <;> simp
theorem byt_of {f : Nat × Nat → Int} (h : ∀ q, Let (f q)) (l : List (Nat × Nat)) : Byt (l.map f) := by
  intro x hx
  obtain ⟨q, _, rfl⟩ := List.mem_map.1 hx
  rcases h q with h | h | h <;> rw [h] <;> decide
theorem cubeOf_v (f : Nat × Nat → Int) {i : Nat} (h : i < 12) (j : Nat) : tb ((cubeOf f).Value.at (i : Int)) j = (decide (j < sz i) && f (i, j) == 49) := by
  unfold cubeOf; rw [cubeTo_v f 12 h, if_pos h, tb_num]
theorem cubeOf_c (f : Nat × Nat → Int) {i : Nat} (h : i < 12) (j : Nat) : tb ((cubeOf f).Care.at (i : Int)) j = (decide (j < sz i) && f (i, j) != 120) := by
  unfold cubeOf; rw [cubeTo_c f 12 h, if_pos h, tb_num]
theorem num_U (f : Nat → Bool) {s : Nat} (h : s ≤ 48) : U ((num f s : Nat) : Int) :=
  U_nat (Nat.lt_of_lt_of_le (num_lt f s) (Nat.pow_le_pow_right (by omega) (by omega)))
theorem cubeOf_RC (f : Nat × Nat → Int) : RC (cubeOf f) := by
  refine ⟨fun i h => ?_, fun i h => ?_⟩
  · unfold cubeOf; rw [cubeTo_v f 12 h, if_pos h]; exact num_U _ sz_le
  · unfold cubeOf; rw [cubeTo_c f 12 h, if_pos h]; exact num_U _ sz_le
/-- What soundness says of the bits. -/
structure SD (c : TCube) : Prop where
  rc : RC c
  hi : ∀ (i j : Nat), i < 12 → sz i ≤ j → tb (c.Care.at (i : Int)) j = false
  ins : ∀ (i j : Nat), i < 12 → tb (c.Value.at (i : Int)) j = true → tb (c.Care.at (i : Int)) j = true
theorem HSb_iff {x : Arr 12} (hx : RG x) : HSb x = true ↔ ∀ (i j : Nat), i < 12 → sz i ≤ j → tb (x.at (i : Int)) j = false := by
  unfold HSb
  rw [allFrom_iff]
  exact ⟨fun h i j hi hj => (fitsB_iff (hx i hi)).1 (h i (by omega) hi) j hj, fun h i _ hi => (fitsB_iff (hx i hi)).2 fun j hj => h i j hi hj⟩
theorem PLb_iff {c : TCube} (hc : RC c) : PLb c = true ↔ ∀ (i j : Nat), i < 12 → tb (c.Value.at (i : Int)) j = true → tb (c.Care.at (i : Int)) j = true := by
  unfold PLb
  rw [allFrom_iff]
  exact ⟨fun h i j hi hj => (insB_iff hc hi).1 (h i (by omega) hi) j hj, fun h i _ hi => (insB_iff hc hi).2 fun j hj => h i j hi hj⟩
theorem Sb_iff {c : TCube} (hc : RC c) : Sb c = true ↔ SD c := by
  unfold Sb
  rw [Bool.and_eq_true, HSb_iff hc.c, PLb_iff hc]
  exact ⟨fun ⟨h1, h2⟩ => ⟨hc, h1, h2⟩, fun h => ⟨h.hi, h.ins⟩⟩
theorem SD.hiv {c : TCube} (h : SD c) {i j : Nat} (hi : i < 12) (hj : sz i ≤ j) : tb (c.Value.at (i : Int)) j = false := by
  cases hv : tb (c.Value.at (i : Int)) j
  · rfl
  · have := h.ins i j hi hv
    rw [h.hi i j hi hj] at this; cases this
theorem lt49 {c : TCube} (q : Nat × Nat) : (lt c q == 49) = (tb (c.Care.at (q.1 : Int)) q.2 && tb (c.Value.at (q.1 : Int)) q.2) := by
  unfold lt; cases tb (c.Care.at (q.1 : Int)) q.2 <;> cases tb (c.Value.at (q.1 : Int)) q.2 <;> rfl
theorem lt120 {c : TCube} (q : Nat × Nat) : (lt c q == 120) = !tb (c.Care.at (q.1 : Int)) q.2 := by
  unfold lt; cases tb (c.Care.at (q.1 : Int)) q.2 <;> cases tb (c.Value.at (q.1 : Int)) q.2 <;> rfl
/-- Two sound cubes with the same bits are one. -/
theorem SD.ext {c d : TCube} (h : SD c) (k : SD d) (hv : ∀ (i j : Nat), i < 12 → j < sz i → tb (c.Value.at (i : Int)) j = tb (d.Value.at (i : Int)) j) (hc : ∀ (i j : Nat), i < 12 → j < sz i → tb (c.Care.at (i : Int)) j = tb (d.Care.at (i : Int)) j) : c = d := by
  refine TCube.ext' (Arr.ext fun i hi => ?_) (Arr.ext fun i hi => ?_)
  · refine tb_ext (h.rc.v i hi) (k.rc.v i hi) fun j => ?_
    rcases Nat.lt_or_ge j (sz i) with hj | hj
    · exact hv i j hi hj
    · rw [h.hiv hi hj, k.hiv hi hj]
  · refine tb_ext (h.rc.c i hi) (k.rc.c i hi) fun j => ?_
    rcases Nat.lt_or_ge j (sz i) with hj | hj
    · exact hc i j hi hj
    · rw [h.hi i j hi hj, k.hi i j hi hj]
theorem cubeOf_SD {f : Nat × Nat → Int} : SD (cubeOf f) := by
  refine ⟨cubeOf_RC f, fun i j hi hj => ?_, fun i j hi hv => ?_⟩
  · rw [cubeOf_c f hi]; simp; omega
  · rw [cubeOf_v f hi] at hv
    rw [cubeOf_c f hi]
    simp only [Bool.and_eq_true, decide_eq_true_eq, beq_iff_eq] at hv
    rw [hv.2]; simp [hv.1]
theorem cubeOf_lt {f : Nat × Nat → Int} {c : TCube} (hc : SD c) (h : ∀ (i j : Nat), i < 12 → j < sz i → f (i, j) = lt c (i, j)) : cubeOf f = c := by
  refine cubeOf_SD.ext hc (fun i j hi hj => ?_) (fun i j hi hj => ?_)
  · rw [cubeOf_v f hi, h i j hi hj, lt49]
    simp only [hj, decide_true, Bool.true_and]
    cases hv : tb (c.Value.at (i : Int)) j
    · simp
    · rw [hc.ins i j hi hv]; rfl
  · rw [cubeOf_c f hi, h i j hi hj]
    have := lt120 (c := c) (i, j)
    rw [bne, this]
    simp [hj]
end Go.Proofs.YtgfnkigoaajllaaGreat
