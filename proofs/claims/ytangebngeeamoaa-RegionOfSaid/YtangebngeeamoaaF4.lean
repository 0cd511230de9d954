/- Plain laws on the cubes' own operations, against the reference's. -/
import Derived.Test.YtangebngeeamoaaF3
set_option linter.unusedVariables false
set_option linter.unusedSimpArgs false
set_option maxRecDepth 100000
namespace Go.Proofs.Ytangebngeeamoaa
open Go.RowKit Go.Pod

/-! ### Meet -/
def okm (c d : TCube) (i : Nat) : Bool := bAnd .u64 (bAnd .u64 (bXor .u64 (c.Value.at (i : Int)) (d.Value.at (i : Int))) (c.Care.at (i : Int))) (d.Care.at (i : Int)) == 0
theorem okm_iff {c d : TCube} (hc : RC c) (hd : RC d) {i : Nat} (h : i < 12) : okm c d i = true ↔ ∀ j, tb (c.Care.at (i : Int)) j = true → tb (d.Care.at (i : Int)) j = true → tb (c.Value.at (i : Int)) j = tb (d.Value.at (i : Int)) j := by
  unfold okm
  rw [eq0_iff (U_bAnd _ _)]
  have e : ∀ j, tb (bAnd .u64 (bAnd .u64 (bXor .u64 (c.Value.at (i : Int)) (d.Value.at (i : Int))) (c.Care.at (i : Int))) (d.Care.at (i : Int))) j = ((tb (c.Value.at (i : Int)) j ^^ tb (d.Value.at (i : Int)) j) && tb (c.Care.at (i : Int)) j && tb (d.Care.at (i : Int)) j) := fun j => by
    rw [tb_and (U_bAnd _ _) (hd.c i h), tb_and (U_bXor _ _) (hc.c i h), tb_xor (hc.v i h) (hd.v i h)]
  constructor
  · intro h1 j h2 h3
    have := h1 j
    rw [e, h2, h3] at this
    simpa using this
  · intro h1 j
    rw [e]
    cases h2 : tb (c.Care.at (i : Int)) j
    · simp
    · cases h3 : tb (d.Care.at (i : Int)) j
      · simp
      · rw [h1 j h2 h3]; simp
def orTo (c d : TCube) (n : Nat) : TCube :=
  ⟨fun i => if i.val < n then bOr .u64 (c.Value.at (i.val : Int)) (d.Value.at (i.val : Int)) else c.Value i, fun i => if i.val < n then bOr .u64 (c.Care.at (i.val : Int)) (d.Care.at (i.val : Int)) else c.Care i⟩
def orC (c d : TCube) : TCube := orTo c d 12
theorem orTo_v (c d : TCube) (n : Nat) {i : Nat} (h : i < 12) : (orTo c d n).Value.at (i : Int) = if i < n then bOr .u64 (c.Value.at (i : Int)) (d.Value.at (i : Int)) else c.Value.at (i : Int) := by
  rw [Arr.at_nat _ h, Arr.at_nat c.Value h]; unfold orTo; simp only [Arr.at_nat c.Value h]
theorem orTo_c (c d : TCube) (n : Nat) {i : Nat} (h : i < 12) : (orTo c d n).Care.at (i : Int) = if i < n then bOr .u64 (c.Care.at (i : Int)) (d.Care.at (i : Int)) else c.Care.at (i : Int) := by
  rw [Arr.at_nat _ h, Arr.at_nat c.Care h]; unfold orTo; simp only [Arr.at_nat c.Care h]
theorem cube_Meet_l0 (k : Nat) (c d : TCube) : ∀ (r n m : Nat), n + r = 12 → r < m → cube_Meet.l0 k d m (orTo c d n) (n : Int) = some (if allFrom (okm c d) n then .brk (orC c d) else .ret (TCube.zero, false))
  | r, n, 0, _, h => by omega
  | 0, n, m + 1, hn, _ => by
    obtain rfl : n = 12 := by omega
    rw [cube_Meet.l0, if_neg (by decide), allFrom_end]
    rfl
  | r + 1, n, m + 1, hn, hr => by
    have h12 : n < 12 := by omega
    rw [cube_Meet.l0, if_pos (by simp only [decide_eq_true_eq]; omega), if_pos (by omega), inc n (by omega), allFrom_step h12]
    have hv0 : (orTo c d n).Value.at (n : Int) = c.Value.at (n : Int) := by rw [orTo_v c d n h12, if_neg (Nat.lt_irrefl _)]
    have hc0 : (orTo c d n).Care.at (n : Int) = c.Care.at (n : Int) := by rw [orTo_c c d n h12, if_neg (Nat.lt_irrefl _)]
    rw [hv0, hc0]
    rw [show (bAnd .u64 (bAnd .u64 (bXor .u64 (c.Value.at (n : Int)) (d.Value.at (n : Int))) (c.Care.at (n : Int))) (d.Care.at (n : Int)) != 0) = !okm c d n from rfl]
    cases hf : okm c d n
    · simp
    · simp only [Bool.not_true, Bool.false_eq_true, if_false, Bool.true_and]
      have e : (⟨(orTo c d n).Value.upd (n : Int) (bOr .u64 (c.Value.at (n : Int)) (d.Value.at (n : Int))), (orTo c d n).Care.upd (n : Int) (bOr .u64 (c.Care.at (n : Int)) (d.Care.at (n : Int)))⟩ : TCube) = orTo c d (n + 1) := by
        refine TCube.ext' (Arr.ext fun i hi => ?_) (Arr.ext fun i hi => ?_)
        · rw [Arr.at_upd _ hi, orTo_v _ _ _ hi, orTo_v _ _ _ hi]
          by_cases e : i = n
          · subst e; simp
          · rw [if_neg e]; by_cases h : i < n
            · rw [if_pos h, if_pos (by omega)]
            · rw [if_neg h, if_neg (by omega)]
        · rw [Arr.at_upd _ hi, orTo_c _ _ _ hi, orTo_c _ _ _ hi]
          by_cases e : i = n
          · subst e; simp
          · rw [if_neg e]; by_cases h : i < n
            · rw [if_pos h, if_pos (by omega)]
            · rw [if_neg h, if_neg (by omega)]
      rw [e]
      exact cube_Meet_l0 k c d r (n + 1) m (by omega) (by omega)
def meets (c d : TCube) : Bool := Sb c && Sb d && allFrom (okm c d) 0
def meetC (c d : TCube) : TCube × Bool := if meets c d then (orC c d, true) else (TCube.zero, false)
theorem cube_Meet_at {k : Nat} (hk : 12 < k) {c d : TCube} (hc : RC c) (hd : RC d) : cube_Meet k c d = some (meetC c d) := by
  unfold cube_Meet
  have h0 : orTo c d 0 = c := by
    refine TCube.ext' (Arr.ext fun i hi => ?_) (Arr.ext fun i hi => ?_)
    · rw [orTo_v _ _ _ hi, if_neg (by omega)]
    · rw [orTo_c _ _ _ hi, if_neg (by omega)]
  have := cube_Meet_l0 k c d 12 0 k rfl hk
  rw [h0, show ((0 : Nat) : Int) = 0 from rfl] at this
  rw [cube_both_at hk hc hd, Option.bind_some, this]
  unfold meetC meets
  cases Sb c && Sb d
  · simp
  · cases allFrom (okm c d) 0 <;> simp
/-- One letter of a meet: what is not open in the first, else the second's. -/
def mg (f g : Nat × Nat → Int) (q : Nat × Nat) : Int := if f q == 120 then g q else f q
def okl (f g : Nat × Nat → Int) (q : Nat × Nat) : Bool := f q == 120 || g q == 120 || f q == g q
theorem byteAt_text {f : Nat × Nat → Int} (hf : Byt (pos.map f)) {pre suf : List (Nat × Nat)} {q : Nat × Nat} (h : pos = pre ++ q :: suf) : byteAt (textOf f) (pre.length : Int) = f q := by
  unfold textOf
  have h2 : pos.map f = pre.map f ++ f q :: suf.map f := by rw [h]; simp
  rw [h2] at hf ⊢
  have := byteAt_split hf
  rwa [List.length_map] at this
theorem text_size (f : Nat × Nat → Int) : (textOf f).size = 248 := by unfold textOf; rw [strOfNums_size, List.length_map, pos_len]
theorem pre_lt {pre suf : List (Nat × Nat)} (h : pos = pre ++ suf) : pre.length + suf.length = 248 := by rw [← pos_len, h, List.length_append]
theorem set_mid {α : Type} (l : List α) (x v : α) (r : List α) : (l ++ x :: r).set l.length v = l ++ v :: r := by
  induction l with
  | nil => rfl
  | cons y l ih => simp [ih]
theorem mg_let {f g : Nat × Nat → Int} (hf : ∀ q, Let (f q)) (hg : ∀ q, Let (g q)) (q : Nat × Nat) : Let (mg f g q) := by
  unfold mg; split; exact hg q; exact hf q
theorem okl_iff {c d : TCube} (q : Nat × Nat) : okl (lt c) (lt d) q = true ↔ (tb (c.Care.at (q.1 : Int)) q.2 = true → tb (d.Care.at (q.1 : Int)) q.2 = true → tb (c.Value.at (q.1 : Int)) q.2 = tb (d.Value.at (q.1 : Int)) q.2) := by
  unfold okl
  rw [lt120, lt120]
  unfold lt
  cases tb (c.Care.at (q.1 : Int)) q.2 <;> cases tb (d.Care.at (q.1 : Int)) q.2 <;> cases tb (c.Value.at (q.1 : Int)) q.2 <;> cases tb (d.Value.at (q.1 : Int)) q.2 <;> simp
theorem okl_all {c d : TCube} (hc : SD c) (hd : SD d) : pos.all (okl (lt c) (lt d)) = allFrom (okm c d) 0 := by
  rw [Bool.eq_iff_iff, List.all_eq_true, allFrom_iff]
  constructor
  · intro h i _ hi
    rw [okm_iff hc.rc hd.rc hi]
    intro j h1 h2
    rcases Nat.lt_or_ge j (sz i) with hj | hj
    · exact (okl_iff (i, j)).1 (h (i, j) (mem_pos.2 ⟨hi, hj⟩)) h1 h2
    · rw [hc.hi i j hi hj] at h1; cases h1
  · intro h q hq
    obtain ⟨h1, h2⟩ := mem_pos.1 hq
    rw [okl_iff]
    exact (okm_iff hc.rc hd.rc h1).1 (h q.1 (by omega) h1) q.2
theorem orC_v (c d : TCube) {i : Nat} (h : i < 12) : (orC c d).Value.at (i : Int) = bOr .u64 (c.Value.at (i : Int)) (d.Value.at (i : Int)) := by unfold orC; rw [orTo_v c d 12 h, if_pos h]
theorem orC_c (c d : TCube) {i : Nat} (h : i < 12) : (orC c d).Care.at (i : Int) = bOr .u64 (c.Care.at (i : Int)) (d.Care.at (i : Int)) := by unfold orC; rw [orTo_c c d 12 h, if_pos h]
theorem orC_RC (c d : TCube) : RC (orC c d) := ⟨fun i h => by rw [orC_v c d h]; exact U_bOr _ _, fun i h => by rw [orC_c c d h]; exact U_bOr _ _⟩
theorem orC_vb {c d : TCube} (hc : RC c) (hd : RC d) {i : Nat} (h : i < 12) (j : Nat) : tb ((orC c d).Value.at (i : Int)) j = (tb (c.Value.at (i : Int)) j || tb (d.Value.at (i : Int)) j) := by rw [orC_v c d h, tb_or (hc.v i h) (hd.v i h)]
theorem orC_cb {c d : TCube} (hc : RC c) (hd : RC d) {i : Nat} (h : i < 12) (j : Nat) : tb ((orC c d).Care.at (i : Int)) j = (tb (c.Care.at (i : Int)) j || tb (d.Care.at (i : Int)) j) := by rw [orC_c c d h, tb_or (hc.c i h) (hd.c i h)]
theorem orC_SD {c d : TCube} (hc : SD c) (hd : SD d) : SD (orC c d) := by
  refine ⟨orC_RC c d, fun i j hi hj => ?_, fun i j hi hv => ?_⟩
  · rw [orC_cb hc.rc hd.rc hi, hc.hi i j hi hj, hd.hi i j hi hj]; rfl
  · rw [orC_vb hc.rc hd.rc hi] at hv
    rw [orC_cb hc.rc hd.rc hi]
    rcases Bool.or_eq_true_iff.1 hv with h | h
    · rw [hc.ins i j hi h]; rfl
    · rw [hd.ins i j hi h]; simp
theorem cubeOf_mg {c d : TCube} (hc : SD c) (hd : SD d) (h : allFrom (okm c d) 0 = true) : cubeOf (mg (lt c) (lt d)) = orC c d := by
  refine cubeOf_lt (orC_SD hc hd) fun i j hi hj => ?_
  have h1 := (okm_iff hc.rc hd.rc hi).1 (allFrom_iff.1 h i (by omega) hi) j
  have h2 := hc.ins i j hi
  have h3 := hd.ins i j hi
  unfold mg lt
  rw [orC_cb hc.rc hd.rc hi, orC_vb hc.rc hd.rc hi]
  revert h1 h2 h3
  cases tb (c.Care.at (i : Int)) j <;> cases tb (d.Care.at (i : Int)) j <;> cases tb (c.Value.at (i : Int)) j <;> cases tb (d.Value.at (i : Int)) j <;> simp
end Go.Proofs.Ytangebngeeamoaa
