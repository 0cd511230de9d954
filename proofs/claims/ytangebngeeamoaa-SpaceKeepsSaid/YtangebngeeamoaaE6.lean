/- Plain laws on what is left of a cube without another. -/
import Derived.Test.YtangebngeeamoaaE5
set_option linter.unusedVariables false
set_option linter.unusedSimpArgs false
set_option maxRecDepth 100000
namespace Go.Proofs.Ytangebngeeamoaa
open Go.RowKit Go.Pod

/-- A cube with one bit more that is asked for. -/
def setB (c : TCube) (q : Nat × Nat) (b : Bool) : TCube :=
  ⟨c.Value.upd (q.1 : Int) (bOr .u64 (c.Value.at (q.1 : Int)) (if b then bShl .u64 1 (q.2 : Int) else 0)), c.Care.upd (q.1 : Int) (bOr .u64 (c.Care.at (q.1 : Int)) (bShl .u64 1 (q.2 : Int)))⟩
theorem setB_v (c : TCube) (q : Nat × Nat) (b : Bool) {i : Nat} (hi : i < 12) : (setB c q b).Value.at (i : Int) = if i = q.1 then bOr .u64 (c.Value.at (q.1 : Int)) (if b then bShl .u64 1 (q.2 : Int) else 0) else c.Value.at (i : Int) := Arr.at_upd _ hi _
theorem setB_c (c : TCube) (q : Nat × Nat) (b : Bool) {i : Nat} (hi : i < 12) : (setB c q b).Care.at (i : Int) = if i = q.1 then bOr .u64 (c.Care.at (q.1 : Int)) (bShl .u64 1 (q.2 : Int)) else c.Care.at (i : Int) := Arr.at_upd _ hi _
theorem U_one (b : Bool) (j : Nat) : U (if b then bShl .u64 1 (j : Int) else 0) := by cases b; exact U_zero; exact U_bShl _ _
theorem setB_RC {c : TCube} (hc : RC c) (q : Nat × Nat) (b : Bool) : RC (setB c q b) := by
  refine ⟨fun i hi => ?_, fun i hi => ?_⟩
  · rw [setB_v c q b hi]; split; exact U_bOr _ _; exact hc.v i hi
  · rw [setB_c c q b hi]; split; exact U_bOr _ _; exact hc.c i hi
theorem setB_vb {c : TCube} (hc : RC c) {q : Nat × Nat} (hq : q.1 < 12) (hj : q.2 < 64) (b : Bool) {i : Nat} (hi : i < 12) (j : Nat) : tb ((setB c q b).Value.at (i : Int)) j = (tb (c.Value.at (i : Int)) j || (decide ((i, j) = q) && b)) := by
  rw [setB_v c q b hi]
  by_cases e : i = q.1
  · subst e
    rw [if_pos rfl, tb_or (hc.v _ hq) (U_one b q.2)]
    congr 1
    cases b
    · simp [tb_zero]
    · simp only [if_true, tb_shl1 hj, Bool.and_true]
      rw [Bool.eq_iff_iff, decide_eq_true_eq, decide_eq_true_eq]
      exact ⟨fun h => by rw [← h], fun h => by rw [← h]⟩
  · rw [if_neg e]
    have : ¬ (i, j) = q := fun h => e (by rw [← h])
    simp [this]
theorem setB_cb {c : TCube} (hc : RC c) {q : Nat × Nat} (hq : q.1 < 12) (hj : q.2 < 64) (b : Bool) {i : Nat} (hi : i < 12) (j : Nat) : tb ((setB c q b).Care.at (i : Int)) j = (tb (c.Care.at (i : Int)) j || decide ((i, j) = q)) := by
  rw [setB_c c q b hi]
  by_cases e : i = q.1
  · subst e
    rw [if_pos rfl, tb_or (hc.c _ hq) (U_bShl _ _), tb_shl1 hj]
    congr 1
    rw [Bool.eq_iff_iff, decide_eq_true_eq, decide_eq_true_eq]
    exact ⟨fun h => by rw [← h], fun h => by rw [← h]⟩
  · rw [if_neg e]
    have : ¬ (i, j) = q := fun h => e (by rw [← h])
    simp [this]
def Val2 (q : Nat × Nat) : Prop := q.1 < 12 ∧ q.2 < sz q.1
theorem Val2.lt {q : Nat × Nat} (h : Val2 q) : q.2 < 64 := Nat.lt_of_lt_of_le h.2 (Nat.le_trans sz_le (by omega))
theorem setB_SD {c : TCube} (hc : SD c) {q : Nat × Nat} (hq : Val2 q) (b : Bool) : SD (setB c q b) := by
  refine ⟨setB_RC hc.rc q b, fun i j hi hj => ?_, fun i j hi hv => ?_⟩
  · rw [setB_cb hc.rc hq.1 hq.lt b hi, hc.hi i j hi hj, Bool.false_or, decide_eq_false_iff_not]
    rintro rfl
    have := hq.2
    simp only at this
    omega
  · rw [setB_vb hc.rc hq.1 hq.lt b hi] at hv
    rw [setB_cb hc.rc hq.1 hq.lt b hi]
    rcases Bool.or_eq_true_iff.1 hv with h | h
    · rw [hc.ins i j hi h]; rfl
    · rw [(Bool.and_eq_true_iff.1 h).1]; simp
def stepC (d : TCube) (s : TCube × List TCube) (q : Nat × Nat) : TCube × List TCube :=
  if tb (d.Care.at (q.1 : Int)) q.2 && !tb (s.1.Care.at (q.1 : Int)) q.2 then (setB s.1 q (tb (d.Value.at (q.1 : Int)) q.2), s.2 ++ [setB s.1 q (!tb (d.Value.at (q.1 : Int)) q.2)]) else s
theorem stepC_RC {d : TCube} {s : TCube × List TCube} (h : RC s.1) (q : Nat × Nat) : RC (stepC d s q).1 := by
  unfold stepC; split; exact setB_RC h _ _; exact h
theorem stepC_len (d : TCube) (s : TCube × List TCube) (q : Nat × Nat) : (stepC d s q).2.length ≤ s.2.length + 1 := by
  unfold stepC; split <;> simp
theorem foldC_RC {d : TCube} : ∀ (l : List (Nat × Nat)) (s : TCube × List TCube), RC s.1 → RC (l.foldl (stepC d) s).1
  | [], s, h => h
  | q :: l, s, h => foldC_RC l _ (stepC_RC h q)
theorem foldC_len {d : TCube} : ∀ (l : List (Nat × Nat)) (s : TCube × List TCube), (l.foldl (stepC d) s).2.length ≤ s.2.length + l.length
  | [], s => by simp
  | q :: l, s => by
    have h1 := foldC_len (d := d) l (stepC d s q)
    have h2 := stepC_len d s q
    simp only [List.foldl_cons, List.length_cons]
    omega
theorem bAnd_bit {x : Int} (hx : U x) {j : Nat} (hj : j < 64) : bAnd .u64 x (bShl .u64 1 (j : Int)) = if tb x j then bShl .u64 1 (j : Int) else 0 := by
  refine tb_ext (U_bAnd _ _) (U_one _ _) fun i => ?_
  rw [tb_and hx (U_bShl _ _), tb_shl1 hj]
  cases hb : tb x j
  · simp only [Bool.false_eq_true, if_false, tb_zero]
    by_cases e : j = i
    · subst e; rw [hb]; rfl
    · simp [e]
  · simp only [if_true, tb_shl1 hj]
    by_cases e : j = i
    · subst e; rw [hb]; simp
    · simp [e]
theorem cube_Less_l1 (k : Nat) {d : TCube} (hd : RC d) {i : Nat} (hi : i < 12) : ∀ (s m : Nat) (R : TCube) (out : List TCube), s ≤ 64 → s < m → RC R → out.length + s ≤ 1000 →
    cube_Less.l1 k d (i : Int) m R out ((s : Int) - 1) = some (((List.range s).reverse.map fun j => (i, j)).foldl (stepC d) (R, out))
  | s, 0, _, _, _, h, _, _ => by omega
  | 0, m + 1, R, out, _, _, _, _ => by
    rw [cube_Less.l1, if_neg (by decide)]
    rfl
  | s + 1, m + 1, R, out, hs, hm, hR, hl => by
    have e : ((s + 1 : Nat) : Int) - 1 = (s : Int) := by omega
    have e3 : IntKind.i64.wrap ((s : Int) - 1) = (s : Int) - 1 := wrapI (by omega) (by omega)
    have hs' : s < 64 := by omega
    have b0 : (0 : Int) ≤ (s : Int) := by omega
    have b1 : (0 : Int) ≤ (i : Int) ∧ (i : Int) < 12 := by omega
    rw [cube_Less.l1, e]
    simp only [b0, b1, decide_true, if_true]
    have hb : (bAnd .u64 (bAndNot .u64 (d.Care.at (i : Int)) (R.Care.at (i : Int))) (bShl .u64 1 (s : Int)) == 0) = !(tb (d.Care.at (i : Int)) s && !tb (R.Care.at (i : Int)) s) := by
      rw [bAnd_bit (U_bAndNot _ _) hs', tb_andNot (hd.c i hi) (hR.c i hi), bShl1 hs']
      cases tb (d.Care.at (i : Int)) s && !tb (R.Care.at (i : Int)) s
      · simp
      · simp only [if_true, Bool.not_true, beq_eq_false_iff_ne]
        have : 0 < 2 ^ s := Nat.two_pow_pos s
        omega
    have hn : bAnd .u64 (bNot .u64 (d.Value.at (i : Int))) (bShl .u64 1 (s : Int)) = if !tb (d.Value.at (i : Int)) s then bShl .u64 1 (s : Int) else 0 := by
      rw [bAnd_bit (U_bNot _) hs', tb_not (hd.v i hi) hs']
    have hv : bAnd .u64 (d.Value.at (i : Int)) (bShl .u64 1 (s : Int)) = if tb (d.Value.at (i : Int)) s then bShl .u64 1 (s : Int) else 0 := bAnd_bit (hd.v i hi) hs'
    rw [hb, hn, hv, e3]
    rw [List.range_succ, List.reverse_append]
    simp only [List.reverse_cons, List.reverse_nil, List.nil_append, List.cons_append, List.map_cons, List.foldl_cons]
    have hst : stepC d (R, out) (i, s) = if tb (d.Care.at (i : Int)) s && !tb (R.Care.at (i : Int)) s then (setB R (i, s) (tb (d.Value.at (i : Int)) s), out ++ [setB R (i, s) (!tb (d.Value.at (i : Int)) s)]) else (R, out) := rfl
    rw [hst]
    cases hg : tb (d.Care.at (i : Int)) s && !tb (R.Care.at (i : Int)) s
    · simp only [Bool.not_false, if_true, Option.bind_some, Bool.false_eq_true, if_false]
      exact cube_Less_l1 k hd hi s m R out (by omega) (by omega) hR (by omega)
    · simp only [Bool.not_true, Bool.false_eq_true, if_false, if_true]
      rw [app_some (by simp; omega)]
      simp only [Option.bind_some]
      exact cube_Less_l1 k hd hi s m _ _ (by omega) (by omega) (setB_RC hR (i, s) (tb (d.Value.at (i : Int)) s)) (by simp; omega)
theorem cube_Less_l0 {k : Nat} (hk : 64 < k) {d : TCube} (hd : RC d) : ∀ (r n m : Nat) (R : TCube) (out : List TCube), n + r = 12 → r < m → RC R → out.length + (posFrom n).length ≤ 1000 →
    cube_Less.l0 k d m R out (n : Int) = some ((posFrom n).foldl (stepC d) (R, out)).2
  | r, n, 0, _, _, _, h, _, _ => by omega
  | 0, n, m + 1, R, out, hn, _, _, _ => by
    obtain rfl : n = 12 := by omega
    rw [cube_Less.l0, if_neg (by decide)]
    rfl
  | r + 1, n, m + 1, R, out, hn, hm, hR, hl => by
    have h12 : n < 12 := by omega
    have h48 : sz n ≤ 48 := sz_le
    rw [posFrom_step h12, List.length_append, posF_len] at hl
    rw [cube_Less.l0, if_pos (by simp only [decide_eq_true_eq]; omega), inc n (by omega), head_Size_at h12, Option.bind_some, wrapI (by omega) (by omega),
      cube_Less_l1 k hd h12 (sz n) k R out (by omega) (by omega) hR (by omega), Option.bind_some, posFrom_step h12, List.foldl_append]
    have h1 := foldC_RC (d := d) (posF n) (R, out) hR
    have h2 := foldC_len (d := d) (posF n) (R, out)
    rw [posF_len] at h2
    simp only at h2
    have := cube_Less_l0 hk hd r (n + 1) m ((posF n).foldl (stepC d) (R, out)).1 ((posF n).foldl (stepC d) (R, out)).2 (by omega) (by omega) h1 (by omega)
    exact this
def lessC (c d : TCube) : List TCube := if Sb c && Sb d then (if meets c d then (pos.foldl (stepC d) (c, [])).2 else [c]) else []
theorem cube_Less_at {k : Nat} (hk : 64 < k) {c d : TCube} (hc : RC c) (hd : RC d) : cube_Less k c d = some (lessC c d) := by
  unfold cube_Less
  have := cube_Less_l0 hk hd 12 0 k c [] rfl (by omega) hc (by rw [show posFrom 0 = pos from rfl, pos_len]; decide)
  rw [show ((0 : Nat) : Int) = 0 from rfl] at this
  rw [cube_both_at (by omega) hc hd, Option.bind_some, cube_Meet_at (by omega) hc hd, Option.bind_some, this]
  unfold lessC meetC
  cases Sb c && Sb d
  · simp
  · cases meets c d
    · simp
    · simp; rfl

/-! ### The reference's rest -/
def updF (h : Nat × Nat → Int) (q : Nat × Nat) (v : Int) : Nat × Nat → Int := fun r => if r = q then v else h r
theorem pos_nodup : pos.Nodup := by decide +kernel
theorem map_set {pre suf : List (Nat × Nat)} {q : Nat × Nat} (hp : pos = pre ++ q :: suf) (h : Nat × Nat → Int) (v : Int) : (pos.map h).set pre.length v = pos.map (updF h q v) := by
  have hn := pos_nodup
  rw [hp] at hn ⊢
  have h1 : q ∉ pre := fun hm => (List.nodup_append.1 hn).2.2 q hm q (by simp) rfl
  have h2 : q ∉ suf := (List.nodup_cons.1 (List.nodup_append.1 hn).2.1).1
  rw [List.map_append, List.map_append, List.map_cons, List.map_cons]
  have e := set_mid (pre.map h) (h q) v (suf.map h)
  rw [List.length_map] at e
  rw [e]
  congr 1
  · exact List.map_congr_left fun r hr => by unfold updF; rw [if_neg (fun e : r = q => h1 (e ▸ hr))]
  · congr 1
    · unfold updF; rw [if_pos rfl]
    · exact List.map_congr_left fun r hr => by unfold updF; rw [if_neg (fun e : r = q => h2 (e ▸ hr))]
def stepR (f g : Nat × Nat → Int) (s : List TCube × (Nat × Nat → Int)) (q : Nat × Nat) : List TCube × (Nat × Nat → Int) :=
  if f q != 120 || g q == 120 then s else (s.1 ++ [cubeOf (updF s.2 q (97 - g q))], updF s.2 q (g q))
/-- The two go in step. -/
theorem pieces_RC {d : TCube} : ∀ (l : List (Nat × Nat)) (s : TCube × List TCube), RC s.1 → (∀ x ∈ s.2, RC x) → ∀ x ∈ (l.foldl (stepC d) s).2, RC x
  | [], s, _, h => h
  | q :: l, s, hr, h => by
    refine pieces_RC l _ (stepC_RC hr q) ?_
    unfold stepC
    split
    · intro x hx
      rcases List.mem_append.1 hx with hx | hx
      · exact h x hx
      · rw [List.mem_singleton.1 hx]; exact setB_RC hr _ _
    · exact h
theorem lessC_RC {c d : TCube} (hc : RC c) : ∀ x ∈ lessC c d, RC x := by
  unfold lessC
  split
  · split
    · exact pieces_RC pos _ hc (by simp)
    · intro x hx; rw [List.mem_singleton.1 hx]; exact hc
  · simp
theorem lessC_len (c d : TCube) : (lessC c d).length ≤ 248 := by
  unfold lessC
  split
  · split
    · have := foldC_len (d := d) pos (c, [])
      rw [pos_len] at this
      simpa using this
    · simp
  · simp
def cnt (u : Arr 12) (l : List TCube) : Nat := (l.filter fun x => hasC x u).length
theorem cnt_append (u : Arr 12) (a b : List TCube) : cnt u (a ++ b) = cnt u a + cnt u b := by simp [cnt]
theorem cnt_one (u : Arr 12) (x : TCube) : cnt u [x] = (hasC x u).toNat := by
  unfold cnt; rw [List.filter_cons]; cases hasC x u <;> simp
theorem has_setB {R : TCube} (hR : SD R) {u : Arr 12} (hu : RG u) {q : Nat × Nat} (hq : q ∈ pos) (hcr : tb (R.Care.at (q.1 : Int)) q.2 = false) (b : Bool) : hasC (setB R q b) u = (hasC R u && (tb (u.at (q.1 : Int)) q.2 == b)) := by
  have hv : Val2 q := mem_pos.1 hq
  have hval : tb (R.Value.at (q.1 : Int)) q.2 = false := by
    cases hx : tb (R.Value.at (q.1 : Int)) q.2
    · rfl
    · have := hR.ins q.1 q.2 hv.1 hx
      rw [hcr] at this; cases this
  rw [Bool.eq_iff_iff, Bool.and_eq_true_iff, hasC_iff (setB_RC hR.rc q b) hu, hasC_iff hR.rc hu, beq_iff_eq]
  constructor
  · rintro ⟨h1, h2, h3⟩
    refine ⟨⟨hR, h2, fun r hr hc => ?_⟩, ?_⟩
    · have := h3 r hr (by rw [setB_cb hR.rc hv.1 hv.lt b (mem_pos.1 hr).1, hc]; rfl)
      rw [← this, setB_vb hR.rc hv.1 hv.lt b (mem_pos.1 hr).1]
      have : ¬ (r.1, r.2) = q := fun e => by
        have e' : r = q := e
        subst e'; rw [hcr] at hc; cases hc
      simp [this]
    · have := h3 q hq (by rw [setB_cb hR.rc hv.1 hv.lt b hv.1]; simp)
      rw [← this, setB_vb hR.rc hv.1 hv.lt b hv.1, hval]; simp
  · rintro ⟨⟨_, h2, h3⟩, h4⟩
    refine ⟨setB_SD hR hv b, h2, fun r hr hc => ?_⟩
    rw [setB_vb hR.rc hv.1 hv.lt b (mem_pos.1 hr).1]
    by_cases e : r = q
    · subst e; rw [hval, h4]; simp
    · have e' : ¬ (r.1, r.2) = q := e
      rw [setB_cb hR.rc hv.1 hv.lt b (mem_pos.1 hr).1] at hc
      simp only [e', decide_false, Bool.or_false] at hc
      rw [← h3 r hr hc]; simp [e']
theorem cnt_fold {d : TCube} {u : Arr 12} (hu : RG u) : ∀ (suf : List (Nat × Nat)) (R : TCube) (out : List TCube), (∀ q ∈ suf, q ∈ pos) → suf.Nodup → SD R →
    cnt u (suf.foldl (stepC d) (R, out)).2 = cnt u out + (hasC R u && suf.any (fun q => tb (d.Care.at (q.1 : Int)) q.2 && !tb (R.Care.at (q.1 : Int)) q.2 && (tb (u.at (q.1 : Int)) q.2 != tb (d.Value.at (q.1 : Int)) q.2))).toNat
  | [], R, out, _, _, _ => by simp
  | q :: suf, R, out, hp, hn, hR => by
    have hq : q ∈ pos := hp q (by simp)
    have hv : Val2 q := mem_pos.1 hq
    have hns := (List.nodup_cons.1 hn).1
    rw [List.foldl_cons, List.any_cons]
    have e1 : stepC d (R, out) q = if tb (d.Care.at (q.1 : Int)) q.2 && !tb (R.Care.at (q.1 : Int)) q.2 then (setB R q (tb (d.Value.at (q.1 : Int)) q.2), out ++ [setB R q (!tb (d.Value.at (q.1 : Int)) q.2)]) else (R, out) := rfl
    rw [e1]
    cases hg : tb (d.Care.at (q.1 : Int)) q.2 && !tb (R.Care.at (q.1 : Int)) q.2
    · simp only [Bool.false_eq_true, if_false, Bool.false_and, Bool.false_or]
      exact cnt_fold hu suf R out (fun r hr => hp r (by simp [hr])) (List.nodup_cons.1 hn).2 hR
    · have hcr : tb (R.Care.at (q.1 : Int)) q.2 = false := by simpa using (Bool.and_eq_true_iff.1 hg).2
      simp only [if_true, Bool.true_and]
      rw [cnt_fold hu suf _ _ (fun r hr => hp r (by simp [hr])) (List.nodup_cons.1 hn).2 (setB_SD hR hv _), cnt_append, cnt_one, has_setB hR hu hq hcr, has_setB hR hu hq hcr]
      have hany : suf.any (fun r => tb (d.Care.at (r.1 : Int)) r.2 && !tb ((setB R q (tb (d.Value.at (q.1 : Int)) q.2)).Care.at (r.1 : Int)) r.2 && (tb (u.at (r.1 : Int)) r.2 != tb (d.Value.at (r.1 : Int)) r.2)) =
          suf.any (fun r => tb (d.Care.at (r.1 : Int)) r.2 && !tb (R.Care.at (r.1 : Int)) r.2 && (tb (u.at (r.1 : Int)) r.2 != tb (d.Value.at (r.1 : Int)) r.2)) := by
        rw [Bool.eq_iff_iff, List.any_eq_true, List.any_eq_true]
        refine exists_congr fun r => and_congr_right fun hr => ?_
        have hrp : r ∈ pos := hp r (by simp [hr])
        have : ¬ (r.1, r.2) = q := fun e => hns (by rw [← e]; exact hr)
        rw [setB_cb hR.rc hv.1 hv.lt _ (mem_pos.1 hrp).1]
        simp [this]
      rw [hany]
      cases hasC R u
      · simp
      · cases tb (u.at (q.1 : Int)) q.2 <;> cases tb (d.Value.at (q.1 : Int)) q.2 <;> simp
theorem cnt_less {c d : TCube} (hc : RC c) (hd : RC d) {u : Arr 12} (hu : RG u) : cnt u (lessC c d) = ((hasC c u && !hasC d u) && Sb d).toNat := by
  unfold lessC
  cases hs : Sb c && Sb d
  · simp only [Bool.false_eq_true, if_false]
    have : ((hasC c u && !hasC d u) && Sb d) = false := by
      cases h : (hasC c u && !hasC d u) && Sb d
      · rfl
      · have h1 := Bool.and_eq_true_iff.1 h
        have h2 := ((hasC_iff hc hu).1 (Bool.and_eq_true_iff.1 h1.1).1).1
        rw [(Sb_iff hc).2 h2, h1.2] at hs; cases hs
    rw [this]; rfl
  · have hc' := (Sb_iff hc).1 ((Bool.and_eq_true_iff.1 hs).1)
    have hd' := (Sb_iff hd).1 ((Bool.and_eq_true_iff.1 hs).2)
    rw [(Bool.and_eq_true_iff.1 hs).2, Bool.and_true]
    simp only [if_true]
    cases hm : meets c d
    · simp only [Bool.false_eq_true, if_false, cnt_one]
      have : (hasC c u && !hasC d u) = hasC c u := by
        cases h1 : hasC c u
        · rfl
        · cases h2 : hasC d u
          · rfl
          · rw [meets_of_has hc hd hu h1 h2] at hm; cases hm
      rw [this]
    · simp only [if_true]
      rw [cnt_fold hu pos c [] (fun _ h => h) pos_nodup hc']
      have hmm := ((meets_iff hc hd).1 hm).2.2
      have : (hasC c u && pos.any (fun q => tb (d.Care.at (q.1 : Int)) q.2 && !tb (c.Care.at (q.1 : Int)) q.2 && (tb (u.at (q.1 : Int)) q.2 != tb (d.Value.at (q.1 : Int)) q.2))) = (hasC c u && !hasC d u) := by
        cases h1 : hasC c u
        · rfl
        · simp only [Bool.true_and]
          obtain ⟨_, hh, hq⟩ := (hasC_iff hc hu).1 h1
          rw [Bool.eq_iff_iff, List.any_eq_true, Bool.not_eq_true', ← Bool.not_eq_true, hasC_iff hd hu]
          constructor
          · rintro ⟨q, hp, hx⟩ ⟨_, _, hr⟩
            simp only [Bool.and_eq_true, bne_iff_ne, ne_eq] at hx
            exact hx.2 (hr q hp hx.1.1).symm
          · intro hn
            refine Classical.byContradiction fun hno => hn ⟨hd', hh, fun q hp hcare => ?_⟩
            refine Classical.byContradiction fun hne => hno ⟨q, hp, ?_⟩
            have hcc : tb (c.Care.at (q.1 : Int)) q.2 = false := by
              cases hcc : tb (c.Care.at (q.1 : Int)) q.2
              · rfl
              · exact absurd ((hmm q.1 q.2 (mem_pos.1 hp).1 hcc hcare).symm.trans (hq q hp hcc)) hne
            rw [hcare, hcc]
            simpa using fun e => hne e.symm
      rw [this]
      simp [cnt]
end Go.Proofs.Ytangebngeeamoaa
