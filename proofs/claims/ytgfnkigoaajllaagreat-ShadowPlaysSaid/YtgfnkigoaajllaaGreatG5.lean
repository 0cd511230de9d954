/- Plain laws on what a cube holds, and on what is left of one without another. -/
import Derived.Test.YtgfnkigoaajllaaGreatG4
set_option linter.unusedVariables false
set_option linter.unusedSimpArgs false
set_option maxRecDepth 100000
namespace Go.Proofs.YtgfnkigoaajllaaGreat
open Go.RowKit Go.Pod

/-! ### Has -/
def hasB (c : TCube) (u : Arr 12) (i : Nat) : Bool := bAnd .u64 (u.at (i : Int)) (c.Care.at (i : Int)) == c.Value.at (i : Int)
def hasC (c : TCube) (u : Arr 12) : Bool := allFrom (hasB c u) 0 && (Sb c && HSb u)
def hl (f w : Nat × Nat → Int) (q : Nat × Nat) : Bool := f q == 120 || f q == w q
/-- The bits of a header that a sound cube asks for. -/
theorem hasB_iff {c : TCube} (hc : SD c) {u : Arr 12} (hu : RG u) : allFrom (hasB c u) 0 = true ↔ ∀ q ∈ pos, tb (c.Care.at (q.1 : Int)) q.2 = true → tb (c.Value.at (q.1 : Int)) q.2 = tb (u.at (q.1 : Int)) q.2 := by
  rw [allFrom_iff]
  have e : ∀ i, i < 12 → (hasB c u i = true ↔ ∀ j, (tb (u.at (i : Int)) j && tb (c.Care.at (i : Int)) j) = tb (c.Value.at (i : Int)) j) := fun i hi => by
    unfold hasB
    rw [beq_iff_eq]
    constructor
    · intro h j; rw [← h, tb_and (hu i hi) (hc.rc.c i hi)]
    · intro h; exact tb_ext (U_bAnd _ _) (hc.rc.v i hi) fun j => by rw [tb_and (hu i hi) (hc.rc.c i hi), h j]
  constructor
  · intro h q hq hcare
    obtain ⟨h1, h2⟩ := mem_pos.1 hq
    have := (e q.1 h1).1 (h q.1 (by omega) h1) q.2
    rw [hcare, Bool.and_true] at this
    exact this.symm
  · intro h i _ hi
    rw [e i hi]
    intro j
    rcases Nat.lt_or_ge j (sz i) with hj | hj
    · have h1 := h (i, j) (mem_pos.2 ⟨hi, hj⟩)
      have h2 := hc.ins i j hi
      revert h1 h2
      simp only
      cases tb (c.Care.at (i : Int)) j <;> cases tb (c.Value.at (i : Int)) j <;> cases tb (u.at (i : Int)) j <;> simp
    · rw [hc.hi i j hi hj, hc.hiv hi hj]; simp
theorem hl_all {c : TCube} {u : Arr 12} : pos.all (hl (lt c) (ltW u)) = true ↔ ∀ q ∈ pos, tb (c.Care.at (q.1 : Int)) q.2 = true → tb (c.Value.at (q.1 : Int)) q.2 = tb (u.at (q.1 : Int)) q.2 := by
  rw [List.all_eq_true]
  have e : ∀ q, hl (lt c) (ltW u) q = true ↔ (tb (c.Care.at (q.1 : Int)) q.2 = true → tb (c.Value.at (q.1 : Int)) q.2 = tb (u.at (q.1 : Int)) q.2) := fun q => by
    unfold hl
    rw [lt120]
    unfold lt ltW
    cases tb (c.Care.at (q.1 : Int)) q.2 <;> cases tb (c.Value.at (q.1 : Int)) q.2 <;> cases tb (u.at (q.1 : Int)) q.2 <;> simp
  exact ⟨fun h q hq => (e q).1 (h q hq), fun h q hq => (e q).2 (h q hq)⟩
theorem hasC_iff {c : TCube} (hc : RC c) {u : Arr 12} (hu : RG u) : hasC c u = true ↔ SD c ∧ HSb u = true ∧ ∀ q ∈ pos, tb (c.Care.at (q.1 : Int)) q.2 = true → tb (c.Value.at (q.1 : Int)) q.2 = tb (u.at (q.1 : Int)) q.2 := by
  unfold hasC
  rw [Bool.and_eq_true_iff, Bool.and_eq_true_iff, Sb_iff hc]
  exact ⟨fun ⟨h1, h2, h3⟩ => ⟨h2, h3, (hasB_iff h2 hu).1 h1⟩, fun ⟨h2, h3, h1⟩ => ⟨(hasB_iff h2 hu).2 h1, h2, h3⟩⟩

/-! ### Equal cubes -/
theorem cellsEq_cube (a b : TCube) : cellsEq (TCube.enc a) (TCube.enc b) = true ↔ a = b := by
  constructor
  · intro h
    simp only [TCube.enc, cellsEq, leafEq, Bool.and_eq_true, beq_iff_eq, Bool.and_true] at h
    refine TCube.ext' (Arr.ext fun i hi => ?_) (Arr.ext fun i hi => ?_)
    · match i, hi with
      | 0, _ | 1, _ | 2, _ | 3, _ | 4, _ | 5, _ | 6, _ | 7, _ | 8, _ | 9, _ | 10, _ | 11, _ => rw [Arr.at_nat _ (by decide), Arr.at_nat _ (by decide)]; simp_all
    · match i, hi with
      | 0, _ | 1, _ | 2, _ | 3, _ | 4, _ | 5, _ | 6, _ | 7, _ | 8, _ | 9, _ | 10, _ | 11, _ => rw [Arr.at_nat _ (by decide), Arr.at_nat _ (by decide)]; simp_all
  · rintro rfl
    exact cellsEq_refl _ (by simp [TCube.enc, leafEq])

/-! ### Within -/
def wB (c d : TCube) (i : Nat) : Bool := !((bAndNot .u64 (d.Care.at (i : Int)) (c.Care.at (i : Int)) != 0) || (bAnd .u64 (bXor .u64 (c.Value.at (i : Int)) (d.Value.at (i : Int))) (d.Care.at (i : Int)) != 0))
theorem ref01_Within_l0 (k : Nat) (c d : TCube) : ∀ (r n m : Nat), n + r = 12 → r < m → ref01_Within.l0 k c d m (n : Int) = some (bif allFrom (wB c d) n then .brk () else .ret false)
  | r, n, 0, _, h => by omega
  | 0, n, m + 1, hn, _ => by
    obtain rfl : n = 12 := by omega
    rw [ref01_Within.l0, if_neg (by decide), allFrom_end]
    rfl
  | r + 1, n, m + 1, hn, hr => by
    have h12 : n < 12 := by omega
    rw [ref01_Within.l0, if_pos (by simp only [decide_eq_true_eq]; omega), if_pos (by omega), inc n (by omega), allFrom_step h12]
    have e : ((bAndNot .u64 (d.Care.at (n : Int)) (c.Care.at (n : Int)) != 0) || (bAnd .u64 (bXor .u64 (c.Value.at (n : Int)) (d.Value.at (n : Int))) (d.Care.at (n : Int)) != 0)) = !wB c d n := by unfold wB; rw [Bool.not_not]
    rw [e]
    cases hf : wB c d n
    · simp
    · simp only [Bool.not_true, Bool.false_eq_true, if_false, Bool.true_and]
      exact ref01_Within_l0 k c d r (n + 1) m (by omega) (by omega)
theorem ref01_Within_at {k : Nat} (hk : 12 < k) {c d : TCube} : ref01_Within k c d = some (allFrom (wB c d) 0 && (Sb c && Sb d)) := by
  unfold ref01_Within
  have := ref01_Within_l0 k c d 12 0 k rfl hk
  rw [show ((0 : Nat) : Int) = 0 from rfl] at this
  rw [this]
  cases allFrom (wB c d) 0
  · simp
  · simp only [Option.bind_some, cond_true, ref01_Plain_at hk]
    cases Sb c <;> simp
theorem wB_iff {c d : TCube} (hc : RC c) (hd : RC d) {i : Nat} (h : i < 12) : wB c d i = true ↔ ∀ j, tb (d.Care.at (i : Int)) j = true → tb (c.Care.at (i : Int)) j = true ∧ tb (c.Value.at (i : Int)) j = tb (d.Value.at (i : Int)) j := by
  unfold wB
  rw [Bool.not_eq_true', Bool.or_eq_false_iff]
  have e1 : (bAndNot .u64 (d.Care.at (i : Int)) (c.Care.at (i : Int)) != 0) = false ↔ ∀ j, tb (d.Care.at (i : Int)) j = true → tb (c.Care.at (i : Int)) j = true := by
    rw [bne_eq_false_iff_eq, ← beq_iff_eq, eq0_iff (U_bAndNot _ _)]
    refine forall_congr' fun j => ?_
    rw [tb_andNot (hd.c i h) (hc.c i h)]
    cases tb (d.Care.at (i : Int)) j <;> cases tb (c.Care.at (i : Int)) j <;> simp
  have e2 : (bAnd .u64 (bXor .u64 (c.Value.at (i : Int)) (d.Value.at (i : Int))) (d.Care.at (i : Int)) != 0) = false ↔ ∀ j, tb (d.Care.at (i : Int)) j = true → tb (c.Value.at (i : Int)) j = tb (d.Value.at (i : Int)) j := by
    rw [bne_eq_false_iff_eq, ← beq_iff_eq, eq0_iff (U_bAnd _ _)]
    refine forall_congr' fun j => ?_
    rw [tb_and (U_bXor _ _) (hd.c i h), tb_xor (hc.v i h) (hd.v i h)]
    cases tb (d.Care.at (i : Int)) j <;> cases tb (c.Value.at (i : Int)) j <;> cases tb (d.Value.at (i : Int)) j <;> simp
  rw [e1, e2]
  exact ⟨fun ⟨h1, h2⟩ j hj => ⟨h1 j hj, h2 j hj⟩, fun h => ⟨fun j hj => (h j hj).1, fun j hj => (h j hj).2⟩⟩
theorem within_eq {c d : TCube} (hc : RC c) (hd : RC d) : ((meetC c d).2 && cellsEq (TCube.enc (meetC c d).1) (TCube.enc c)) = (allFrom (wB c d) 0 && (Sb c && Sb d)) := by
  unfold meetC meets
  cases hs : Sb c && Sb d
  · simp
  · have hc' := (Sb_iff hc).1 ((Bool.and_eq_true_iff.1 hs).1)
    have hd' := (Sb_iff hd).1 ((Bool.and_eq_true_iff.1 hs).2)
    rw [Bool.true_and, Bool.and_true]
    rw [Bool.eq_iff_iff]
    constructor
    · intro h
      cases ha : allFrom (okm c d) 0
      · rw [ha] at h; simp at h
      · rw [ha] at h
        simp only [if_true, Bool.true_and] at h
        have he := (cellsEq_cube _ _).1 h
        rw [allFrom_iff]
        intro i _ hi
        rw [wB_iff hc hd hi]
        intro j hj
        have h1 : tb (c.Care.at (i : Int)) j = true := by
          have := orC_cb hc hd hi j
          rw [he, hj] at this; simpa using this
        exact ⟨h1, (okm_iff hc hd hi).1 (allFrom_iff.1 ha i (by omega) hi) j h1 hj⟩
    · intro h
      rw [allFrom_iff] at h
      have hw := fun i hi => (wB_iff hc hd hi).1 (h i (by omega) hi)
      have ha : allFrom (okm c d) 0 = true := by
        rw [allFrom_iff]
        intro i _ hi
        rw [okm_iff hc hd hi]
        exact fun j _ h2 => (hw i hi j h2).2
      rw [ha]
      simp only [if_true, Bool.true_and]
      rw [cellsEq_cube]
      refine TCube.ext' (Arr.ext fun i hi => ?_) (Arr.ext fun i hi => ?_)
      · refine tb_ext ((orC_RC c d).v i hi) (hc.v i hi) fun j => ?_
        rw [orC_vb hc hd hi]
        cases hv : tb (d.Value.at (i : Int)) j
        · simp
        · have := (hw i hi j (hd'.ins i j hi hv)).2
          rw [this, hv]; rfl
      · refine tb_ext ((orC_RC c d).c i hi) (hc.c i hi) fun j => ?_
        rw [orC_cb hc hd hi]
        cases hv : tb (d.Care.at (i : Int)) j
        · simp
        · rw [(hw i hi j hv).1]; rfl
theorem cube_Within_at {k : Nat} (hk : 12 < k) {c d : TCube} (hc : RC c) (hd : RC d) : cube_Within k c d = some (allFrom (wB c d) 0 && (Sb c && Sb d)) := by
  unfold cube_Within
  rw [cube_Meet_at hk hc hd, Option.bind_some, within_eq hc hd]
theorem meetC_RC (c d : TCube) : RC (meetC c d).1 := by
  unfold meetC
  split
  · exact orC_RC c d
  · exact ⟨fun i h => by rw [show (TCube.zero.Value.at (i : Int)) = 0 from Arr.at_nat _ h]; exact U_zero, fun i h => by rw [show (TCube.zero.Care.at (i : Int)) = 0 from Arr.at_nat _ h]; exact U_zero⟩
theorem meets_iff {c d : TCube} (hc : RC c) (hd : RC d) : meets c d = true ↔ SD c ∧ SD d ∧ ∀ (i j : Nat), i < 12 → tb (c.Care.at (i : Int)) j = true → tb (d.Care.at (i : Int)) j = true → tb (c.Value.at (i : Int)) j = tb (d.Value.at (i : Int)) j := by
  unfold meets
  rw [Bool.and_eq_true_iff, Bool.and_eq_true_iff, Sb_iff hc, Sb_iff hd, allFrom_iff]
  exact ⟨fun ⟨⟨h1, h2⟩, h3⟩ => ⟨h1, h2, fun i j hi => (okm_iff hc hd hi).1 (h3 i (by omega) hi) j⟩, fun ⟨h1, h2, h3⟩ => ⟨⟨h1, h2⟩, fun i _ hi => (okm_iff hc hd hi).2 fun j => h3 i j hi⟩⟩
/-- What two sound cubes that meet both hold is what their meet holds. -/
theorem has_meet {c d : TCube} (hc : RC c) (hd : RC d) {u : Arr 12} (hu : RG u) (h : meets c d = true) : hasC (orC c d) u = (hasC c u && hasC d u) := by
  obtain ⟨h1, h2, h3⟩ := (meets_iff hc hd).1 h
  rw [Bool.eq_iff_iff, Bool.and_eq_true_iff, hasC_iff (orC_RC c d) hu, hasC_iff hc hu, hasC_iff hd hu]
  constructor
  · rintro ⟨_, hh, hq⟩
    refine ⟨⟨h1, hh, fun q hp hcare => ?_⟩, ⟨h2, hh, fun q hp hcare => ?_⟩⟩
    · have hi := (mem_pos.1 hp).1
      have := hq q hp (by rw [orC_cb hc hd hi, hcare]; rfl)
      rw [← this, orC_vb hc hd hi]
      cases hv : tb (d.Value.at (q.1 : Int)) q.2
      · simp
      · rw [h3 q.1 q.2 hi hcare (h2.ins q.1 q.2 hi hv), hv]; rfl
    · have hi := (mem_pos.1 hp).1
      have := hq q hp (by rw [orC_cb hc hd hi, hcare]; simp)
      rw [← this, orC_vb hc hd hi]
      cases hv : tb (c.Value.at (q.1 : Int)) q.2
      · simp
      · rw [← h3 q.1 q.2 hi (h1.ins q.1 q.2 hi hv) hcare, hv]; rfl
  · rintro ⟨⟨_, hh, hq⟩, ⟨_, _, hr⟩⟩
    refine ⟨orC_SD h1 h2, hh, fun q hp hcare => ?_⟩
    have hi := (mem_pos.1 hp).1
    rw [orC_cb hc hd hi] at hcare
    rw [orC_vb hc hd hi]
    rcases Bool.or_eq_true_iff.1 hcare with hcc | hcc
    · have e := hq q hp hcc
      rw [← e]
      cases hv : tb (d.Value.at (q.1 : Int)) q.2
      · simp
      · rw [h3 q.1 q.2 hi hcc (h2.ins q.1 q.2 hi hv), hv]; rfl
    · have e := hr q hp hcc
      rw [← e]
      cases hv : tb (c.Value.at (q.1 : Int)) q.2
      · simp
      · rw [← h3 q.1 q.2 hi (h1.ins q.1 q.2 hi hv) hcc, hv]; rfl
/-- What both hold, they meet in. -/
theorem meets_of_has {c d : TCube} (hc : RC c) (hd : RC d) {u : Arr 12} (hu : RG u) (h1 : hasC c u = true) (h2 : hasC d u = true) : meets c d = true := by
  obtain ⟨s1, _, q1⟩ := (hasC_iff hc hu).1 h1
  obtain ⟨s2, _, q2⟩ := (hasC_iff hd hu).1 h2
  refine (meets_iff hc hd).2 ⟨s1, s2, fun i j hi ha hb => ?_⟩
  rcases Nat.lt_or_ge j (sz i) with hj | hj
  · have hp : (i, j) ∈ pos := mem_pos.2 ⟨hi, hj⟩
    exact (q1 (i, j) hp ha).trans (q2 (i, j) hp hb).symm
  · rw [s1.hi i j hi hj] at ha; cases ha
end Go.Proofs.YtgfnkigoaajllaaGreat
