/- Plain laws on the cubes' own operations, against the reference's. -/
import Derived.Test.YtgfnkigoaajllaaGreatG3
set_option linter.unusedVariables false
set_option linter.unusedSimpArgs false
set_option maxRecDepth 100000
namespace Go.Proofs.YtgfnkigoaajllaaGreat
open Go.RowKit Go.Pod

/-! ### Meet -/
def okm (c d : TCube) (i : Nat) : Bool := bAnd .u64 (bAnd .u64 (bXor .u64 (c.Value.at (i : Int)) (d.Value.at (i : Int))) (c.Care.at (i : Int))) (d.Care.at (i : Int)) == 0
theorem okm_iff {c d : TCube} (hc : RC c) (hd : RC d) {i : Nat} (h : i < 12) : okm c d i = true ↔ ∀ j, tb (c.Care.at (i : Int)) j = true → tb (d.Care.at (i : Int)) j = true → tb (c.Value.at (i : Int)) j = tb (d.Value.at (i : Int)) j := by
  unfold okm
  rw [eq0_iff (U_bAnd _ _)]
  have e : ∀ j, tb (bAnd .u64 (bAnd .u64 (bXor .u64 (c.Value.at (i : Int)) (d.Value.at (i : Int))) (c.Care.at (i : Int))) (d.Care.at (i : Int))) j = ((tb (c.Value.at (i : Int)) j ^^ tb (d.Value.at (i : Int)) j) && tb (c.Care.at (i : Int)) j && tb (d.Care.at (i : Int)) j) := fun j => by
    rw [tb_and (U_bAnd _ _) (hd.c i h), tb_and (U_bXor _ _) (hc.c i h), tb_xor (hc.v i h) (hd.v i h)]
  constructor
  · intro h1 j h2 h3
    have := h1 j
    rw [e, h2, h3] at this
    simpa using this
  · intro h1 j
    rw [e]
    cases h2 : tb (c.Care.at (i : Int)) j
    · simp
    · cases h3 : tb (d.Care.at (i : Int)) j
      · simp
      · rw [h1 j h2 h3]; simp
def orTo (c d : TCube) (n : Nat) : TCube :=
  ⟨fun i => if i.val < n then bOr .u64 (c.Value.at (i.val : Int)) (d.Value.at (i.val : Int)) else c.Value i, fun i => if i.val < n then bOr .u64 (c.Care.at (i.val : Int)) (d.Care.at (i.val : Int)) else c.Care i⟩
def orC (c d : TCube) : TCube := orTo c d 12
theorem orTo_v (c d : TCube) (n : Nat) {i : Nat} (h : i < 12) : (orTo c d n).Value.at (i : Int) = if i < n then bOr .u64 (c.Value.at (i : Int)) (d.Value.at (i : Int)) else c.Value.at (i : Int) := by
  rw [Arr.at_nat _ h, Arr.at_nat c.Value h]; unfold orTo; simp only [Arr.at_nat c.Value h]
theorem orTo_c (c d : TCube) (n : Nat) {i : Nat} (h : i < 12) : (orTo c d n).Care.at (i : Int) = if i < n then bOr .u64 (c.Care.at (i : Int)) (d.Care.at (i : Int)) else c.Care.at (i : Int) := by
  rw [Arr.at_nat _ h, Arr.at_nat c.Care h]; unfold orTo; simp only [Arr.at_nat c.Care h]
theorem cube_Meet_l0 (k : Nat) (c d : TCube) : ∀ (r n m : Nat), n + r = 12 → r < m → cube_Meet.l0 k d m (orTo c d n) (n : Int) = some (if allFrom (okm c d) n then .brk (orC c d) else .ret (TCube.zero, false))
  | r, n, 0, _, h => by omega
  | 0, n, m + 1, hn, _ => by
    obtain rfl : n = 12 := by omega
    rw [cube_Meet.l0, if_neg (by decide), allFrom_end]
    rfl
  | r + 1, n, m + 1, hn, hr => by
    have h12 : n < 12 := by omega
    rw [cube_Meet.l0, if_pos (by simp only [decide_eq_true_eq]; omega), if_pos (by omega), inc n (by omega), allFrom_step h12]
    have hv0 : (orTo c d n).Value.at (n : Int) = c.Value.at (n : Int) := by rw [orTo_v c d n h12, if_neg (Nat.lt_irrefl _)]
    have hc0 : (orTo c d n).Care.at (n : Int) = c.Care.at (n : Int) := by rw [orTo_c c d n h12, if_neg (Nat.lt_irrefl _)]
    rw [hv0, hc0]
    rw [show (bAnd .u64 (bAnd .u64 (bXor .u64 (c.Value.at (n : Int)) (d.Value.at (n : Int))) (c.Care.at (n : Int))) (d.Care.at (n : Int)) != 0) = !okm c d n from rfl]
    cases hf : okm c d n
    · simp
    · simp only [Bool.not_true, Bool.false_eq_true, if_false, Bool.true_and]
      have e : (⟨(orTo c d n).Value.upd (n : Int) (bOr .u64 (c.Value.at (n : Int)) (d.Value.at (n : Int))), (orTo c d n).Care.upd (n : Int) (bOr .u64 (c.Care.at (n : Int)) (d.Care.at (n : Int)))⟩ : TCube) = orTo c d (n + 1) := by
        refine TCube.ext' (Arr.ext fun i hi => ?_) (Arr.ext fun i hi => ?_)
        · rw [Arr.at_upd _ hi, orTo_v _ _ _ hi, orTo_v _ _ _ hi]
          by_cases e : i = n
          · subst e; simp
          · rw [if_neg e]; by_cases h : i < n
            · rw [if_pos h, if_pos (by omega)]
            · rw [if_neg h, if_neg (by omega)]
        · rw [Arr.at_upd _ hi, orTo_c _ _ _ hi, orTo_c _ _ _ hi]
          by_cases e : i = n
          · subst e; simp
          · rw [if_neg e]; by_cases h : i < n
            · rw [if_pos h, if_pos (by omega)]
            · rw [if_neg h, if_neg (by omega)]
      rw [e]
      exact cube_Meet_l0 k c d r (n + 1) m (by omega) (by omega)
def meets (c d : TCube) : Bool := Sb c && Sb d && allFrom (okm c d) 0
def meetC (c d : TCube) : TCube × Bool := if meets c d then (orC c d, true) else (TCube.zero, false)
theorem cube_Meet_at {k : Nat} (hk : 12 < k) {c d : TCube} (hc : RC c) (hd : RC d) : cube_Meet k c d = some (meetC c d) := by
  unfold cube_Meet
  have h0 : orTo c d 0 = c := by
    refine TCube.ext' (Arr.ext fun i hi => ?_) (Arr.ext fun i hi => ?_)
    · rw [orTo_v _ _ _ hi, if_neg (by omega)]
    · rw [orTo_c _ _ _ hi, if_neg (by omega)]
  have := cube_Meet_l0 k c d 12 0 k rfl hk
  rw [h0, show ((0 : Nat) : Int) = 0 from rfl] at this
  rw [cube_both_at hk hc hd, Option.bind_some, this]
  unfold meetC meets
  cases Sb c && Sb d
  · simp
  · cases allFrom (okm c d) 0 <;> simp
/-- One letter of a meet: what is not open in the first, else the second's. -/
def mg (f g : Nat × Nat → Int) (q : Nat × Nat) : Int := if f q == 120 then g q else f q
def okl (f g : Nat × Nat → Int) (q : Nat × Nat) : Bool := f q == 120 || g q == 120 || f q == g q
theorem byteAt_text {f : Nat × Nat → Int} (hf : Byt (pos.map f)) {pre suf : List (Nat × Nat)} {q : Nat × Nat} (h : pos = pre ++ q :: suf) : byteAt (textOf f) (pre.length : Int) = f q := by
  unfold textOf
  have h2 : pos.map f = pre.map f ++ f q :: suf.map f := by rw [h]; simp
  rw [h2] at hf ⊢
  have := byteAt_split hf
  rwa [List.length_map] at this
theorem text_size (f : Nat × Nat → Int) : (textOf f).size = 248 := by unfold textOf; rw [strOfNums_size, List.length_map, pos_len]
theorem pre_lt {pre suf : List (Nat × Nat)} (h : pos = pre ++ suf) : pre.length + suf.length = 248 := by rw [← pos_len, h, List.length_append]
theorem set_mid {α : Type} (l : List α) (x v : α) (r : List α) : (l ++ x :: r).set l.length v = l ++ v :: r := by
  induction l with
  | nil => rfl
  | cons y l ih => simp [ih]
theorem ref01_Meet_l0 (k : Nat) {f g : Nat × Nat → Int} (hf : ∀ q, Let (f q)) (hg : ∀ q, Let (g q)) (t1 t2 : Bool) : ∀ (suf pre : List (Nat × Nat)) (m : Nat), pos = pre ++ suf → suf.length < m →
    ref01_Meet.l0 k (textOf f, t1) (textOf g, t2) m (pre.map (mg f g) ++ suf.map f) (pre.length : Int) = some (bif suf.all (okl f g) then .brk (pos.map (mg f g)) else .ret (TCube.zero, false))
  | suf, pre, 0, _, h => by omega
  | [], pre, m + 1, hp, _ => by
    have := pre_lt hp
    simp only [List.length_nil, Nat.add_zero] at this
    rw [ref01_Meet.l0, if_neg (by simp only [decide_eq_true_eq, text_size]; omega), hp]
    simp
  | q :: suf, pre, m + 1, hp, hm => by
    have hl := pre_lt hp
    simp only [List.length_cons] at hl hm
    have hbf := byteAt_text (byt_of hf _) hp
    have hbg := byteAt_text (byt_of hg _) hp
    rw [ref01_Meet.l0]
    simp only [text_size, hbf, hbg]
    have b0 : (0 : Int) ≤ (pre.length : Int) := by omega
    have b1 : ((pre.length : Nat) : Int) < ((248 : Nat) : Int) := by omega
    rw [inc pre.length (by omega), Int.natCast_add]
    simp only [b0, b1, decide_true, and_self, if_true]
    have hidx : idx (pre.map (mg f g) ++ (q :: suf).map f) (pre.length : Int) = some (f q) := by
      have : pre.length < (pre.map (mg f g) ++ (q :: suf).map f).length := by simp
      rw [idx_nat this]; simp
    have hset : ∀ v : Int, (pre.map (mg f g) ++ (q :: suf).map f).set ((pre.length : Int)).toNat v = pre.map (mg f g) ++ v :: suf.map f := fun v => by
      have := set_mid (pre.map (mg f g)) (f q) v (suf.map f)
      rw [List.length_map] at this
      rw [Int.toNat_natCast]
      exact this
    have ih := ref01_Meet_l0 k hf hg t1 t2 suf (pre ++ [q]) m (by rw [hp]; simp) (by omega)
    rw [List.length_append, List.length_singleton, Int.natCast_add] at ih
    simp only [List.map_append, List.map_cons, List.map_nil, List.append_assoc, List.cons_append, List.nil_append] at ih
    rw [List.all_cons]
    simp only [hidx, hset]
    cases h1 : (f q == 120)
    · have e : mg f g q = f q := by unfold mg; rw [h1]; rfl
      rw [e] at ih
      have e2 : okl f g q = (g q == 120 || f q == g q) := by unfold okl; rw [h1]; rfl
      rw [e2]
      cases h2 : (g q == 120)
      · cases h3 : (f q == g q)
        · simp [h1, h2, h3, bne]
        · simpa [h1, h2, h3, bne] using ih
      · simpa [h1, h2, bne] using ih
    · have e : mg f g q = g q := by unfold mg; rw [h1]; rfl
      rw [e] at ih
      have e2 : okl f g q = true := by unfold okl; rw [h1]; rfl
      rw [e2]
      simpa [h1] using ih
theorem mg_let {f g : Nat × Nat → Int} (hf : ∀ q, Let (f q)) (hg : ∀ q, Let (g q)) (q : Nat × Nat) : Let (mg f g q) := by
  unfold mg; split; exact hg q; exact hf q
theorem ref01_Meet_at {k : Nat} (hk : 300 < k) {c d : TCube} (hc : RC c) (hd : RC d) : ref01_Meet k c d = some (if Sb c && Sb d && pos.all (okl (lt c) (lt d)) then (cubeOf (mg (lt c) (lt d)), true) else (TCube.zero, false)) := by
  unfold ref01_Meet
  rw [ref01_Text_at (by omega) hc, ref01_Text_at (by omega) hd]
  simp only [Option.bind_some]
  have h := ref01_Meet_l0 k (lt_let c) (lt_let d) (Sb c) (Sb d) pos [] k rfl (by rw [pos_len]; omega)
  have hb : toBytes (textOf (lt c)) = some (pos.map (lt c)) := toBytes_nums (byt_of (lt_let c) _) (by rw [List.length_map, pos_len]; decide)
  simp only [List.map_nil, List.nil_append, List.length_nil] at h
  rw [show ((0 : Nat) : Int) = 0 from rfl] at h
  cases hs : Sb c && Sb d
  · have : (!Sb c || !Sb d) = true := by rw [← Bool.not_and, hs]; rfl
    simp [this]
  · have : (!Sb c || !Sb d) = false := by rw [← Bool.not_and, hs]; rfl
    simp only [this, Bool.false_eq_true, if_false, hb, Option.bind_some, h, Bool.true_and]
    have hfr : ref01_From k (strOfNums (pos.map (mg (lt c) (lt d)))) = some (cubeOf (mg (lt c) (lt d))) := ref01_From_at (by omega) (byt_of (mg_let (lt_let c) (lt_let d)) _)
    cases pos.all (okl (lt c) (lt d))
    · simp
    · simp [hfr]
theorem okl_iff {c d : TCube} (q : Nat × Nat) : okl (lt c) (lt d) q = true ↔ (tb (c.Care.at (q.1 : Int)) q.2 = true → tb (d.Care.at (q.1 : Int)) q.2 = true → tb (c.Value.at (q.1 : Int)) q.2 = tb (d.Value.at (q.1 : Int)) q.2) := by
  unfold okl
  rw [lt120, lt120]
  unfold lt
  cases tb (c.Care.at (q.1 : Int)) q.2 <;> cases tb (d.Care.at (q.1 : Int)) q.2 <;> cases tb (c.Value.at (q.1 : Int)) q.2 <;> cases tb (d.Value.at (q.1 : Int)) q.2 <;> simp
theorem okl_all {c d : TCube} (hc : SD c) (hd : SD d) : pos.all (okl (lt c) (lt d)) = allFrom (okm c d) 0 := by
  rw [Bool.eq_iff_iff, List.all_eq_true, allFrom_iff]
  constructor
  · intro h i _ hi
    rw [okm_iff hc.rc hd.rc hi]
    intro j h1 h2
    rcases Nat.lt_or_ge j (sz i) with hj | hj
    · exact (okl_iff (i, j)).1 (h (i, j) (mem_pos.2 ⟨hi, hj⟩)) h1 h2
    · rw [hc.hi i j hi hj] at h1; cases h1
  · intro h q hq
    obtain ⟨h1, h2⟩ := mem_pos.1 hq
    rw [okl_iff]
    exact (okm_iff hc.rc hd.rc h1).1 (h q.1 (by omega) h1) q.2
theorem orC_v (c d : TCube) {i : Nat} (h : i < 12) : (orC c d).Value.at (i : Int) = bOr .u64 (c.Value.at (i : Int)) (d.Value.at (i : Int)) := by unfold orC; rw [orTo_v c d 12 h, if_pos h]
theorem orC_c (c d : TCube) {i : Nat} (h : i < 12) : (orC c d).Care.at (i : Int) = bOr .u64 (c.Care.at (i : Int)) (d.Care.at (i : Int)) := by unfold orC; rw [orTo_c c d 12 h, if_pos h]
theorem orC_RC (c d : TCube) : RC (orC c d) := ⟨fun i h => by rw [orC_v c d h]; exact U_bOr _ _, fun i h => by rw [orC_c c d h]; exact U_bOr _ _⟩
theorem orC_vb {c d : TCube} (hc : RC c) (hd : RC d) {i : Nat} (h : i < 12) (j : Nat) : tb ((orC c d).Value.at (i : Int)) j = (tb (c.Value.at (i : Int)) j || tb (d.Value.at (i : Int)) j) := by rw [orC_v c d h, tb_or (hc.v i h) (hd.v i h)]
theorem orC_cb {c d : TCube} (hc : RC c) (hd : RC d) {i : Nat} (h : i < 12) (j : Nat) : tb ((orC c d).Care.at (i : Int)) j = (tb (c.Care.at (i : Int)) j || tb (d.Care.at (i : Int)) j) := by rw [orC_c c d h, tb_or (hc.c i h) (hd.c i h)]
theorem orC_SD {c d : TCube} (hc : SD c) (hd : SD d) : SD (orC c d) := by
  refine ⟨orC_RC c d, fun i j hi hj => ?_, fun i j hi hv => ?_⟩
  · rw [orC_cb hc.rc hd.rc hi, hc.hi i j hi hj, hd.hi i j hi hj]; rfl
  · rw [orC_vb hc.rc hd.rc hi] at hv
    rw [orC_cb hc.rc hd.rc hi]
    rcases Bool.or_eq_true_iff.1 hv with h | h
    · rw [hc.ins i j hi h]; rfl
    · rw [hd.ins i j hi h]; simp
theorem cubeOf_mg {c d : TCube} (hc : SD c) (hd : SD d) (h : allFrom (okm c d) 0 = true) : cubeOf (mg (lt c) (lt d)) = orC c d := by
  refine cubeOf_lt (orC_SD hc hd) fun i j hi hj => ?_
  have h1 := (okm_iff hc.rc hd.rc hi).1 (allFrom_iff.1 h i (by omega) hi) j
  have h2 := hc.ins i j hi
  have h3 := hd.ins i j hi
  unfold mg lt
  rw [orC_cb hc.rc hd.rc hi, orC_vb hc.rc hd.rc hi]
  revert h1 h2 h3
  cases tb (c.Care.at (i : Int)) j <;> cases tb (d.Care.at (i : Int)) j <;> cases tb (c.Value.at (i : Int)) j <;> cases tb (d.Value.at (i : Int)) j <;> simp
theorem ref01_Meet_eq {k : Nat} (hk : 300 < k) {c d : TCube} (hc : RC c) (hd : RC d) : ref01_Meet k c d = some (meetC c d) := by
  rw [ref01_Meet_at hk hc hd]
  congr 1
  unfold meetC meets
  cases hs : Sb c && Sb d
  · rfl
  · have hc' := (Sb_iff hc).1 ((Bool.and_eq_true_iff.1 hs).1)
    have hd' := (Sb_iff hd).1 ((Bool.and_eq_true_iff.1 hs).2)
    rw [okl_all hc' hd']
    cases ha : allFrom (okm c d) 0
    · rfl
    · rw [cubeOf_mg hc' hd' ha]
end Go.Proofs.YtgfnkigoaajllaaGreat
