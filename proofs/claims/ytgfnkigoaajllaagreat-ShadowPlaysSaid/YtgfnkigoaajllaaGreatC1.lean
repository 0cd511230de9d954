/- Plain laws on cubes and headers: what the plain functions answer. -/
import Derived.Test.YtgfnkigoaajllaaGreatB1
import Derived.Test.YtgfnkigoaajllaaGreatF
set_option linter.unusedVariables false
set_option linter.unusedSimpArgs false
set_option maxRecDepth 100000
namespace Go.Proofs.YtgfnkigoaajllaaGreat
open Go.RowKit Go.Pod

def sz (i : Nat) : Nat := [16, 48, 48, 16, 12, 4, 32, 32, 8, 8, 12, 12].getD i 0
theorem sz_le {i : Nat} : sz i ≤ 48 := by
  match i with
  | 0 | 1 | 2 | 3 | 4 | 5 | 6 | 7 | 8 | 9 | 10 | 11 => decide
  | n + 12 => simp [sz]
theorem there {i : Nat} (h : i < 12) : head_there (i : Int) = some true := by
  unfold head_there
  congr 1
  simp only [Bool.and_eq_true, decide_eq_true_eq]
  omega
theorem head_Size_at {i : Nat} (h : i < 12) : head_Size (i : Int) = some (sz i : Int) := by
  match i, h with
  | 0, _ | 1, _ | 2, _ | 3, _ | 4, _ | 5, _ | 6, _ | 7, _ | 8, _ | 9, _ | 10, _ | 11, _ => rfl
theorem ref01_Size_at {i : Nat} (h : i < 12) : ref01_Size (i : Int) = some (sz i : Int) := by
  match i, h with
  | 0, _ | 1, _ | 2, _ | 3, _ | 4, _ | 5, _ | 6, _ | 7, _ | 8, _ | 9, _ | 10, _ | 11, _ => rfl
/-- A word of so many bits. -/
def fitsB (i : Nat) (v : Int) : Bool := decide (v < 2 ^ sz i)
theorem fitsB_iff {i : Nat} {v : Int} (hv : U v) : fitsB i v = true ↔ ∀ j, sz i ≤ j → tb v j = false := by
  unfold fitsB
  rw [decide_eq_true_eq]
  exact ⟨fun h j hj => tb_lt hv.1 h hj, fun h => lt_of_tb hv.1 h⟩
theorem head_fits_at {i : Nat} (h : i < 12) {v : Int} (hv : U v) : head_fits (i : Int) v = some (fitsB i v) := by
  unfold head_fits
  rw [head_Size_at h]
  simp only [Option.bind_some]
  rw [if_pos (by omega)]
  congr 1
  rw [Bool.eq_iff_iff, fitsB_iff hv]
  have hs : sz i ≤ 64 := Nat.le_trans sz_le (by omega)
  have hu : U (bShr .u64 v (sz i : Int)) := by
    rw [bShr64 hv hs]
    refine U_nat (Nat.lt_of_le_of_lt (Nat.shiftRight_le _ _) ?_)
    unfold U at hv; omega
  rw [eq0_iff hu]
  constructor
  · intro h j hj
    have := h (j - sz i)
    rw [tb_shr hv hs] at this
    rwa [show sz i + (j - sz i) = j by omega] at this
  · intro h j
    rw [tb_shr hv hs]
    exact h _ (by omega)
theorem ref01_Fits_at {i : Nat} (h : i < 12) {v : Int} : ref01_Fits v (sz i : Int) = some (fitsB i v) := by
  unfold ref01_Fits
  have hs : sz i < 64 := Nat.lt_of_le_of_lt sz_le (by omega)
  have e : IntKind.u64.wrap (sz i : Int) = (sz i : Int) := wrap64 (U_nat (by omega))
  rw [e, if_pos (by omega), bShl1 hs]
  unfold fitsB
  simp
/-- All words are of 64 bits. -/
def RG (x : Arr 12) : Prop := ∀ i : Nat, i < 12 → U (x.at (i : Int))
structure RC (c : TCube) : Prop where
  v : RG c.Value
  c : RG c.Care
def allFrom (p : Nat → Bool) (n : Nat) : Bool := (List.range 12).all fun i => decide (i < n) || p i
theorem allFrom_iff {p : Nat → Bool} {n : Nat} : allFrom p n = true ↔ ∀ i, n ≤ i → i < 12 → p i = true := by
  unfold allFrom
  simp only [List.all_eq_true, List.mem_range, Bool.or_eq_true, decide_eq_true_eq]
  exact ⟨fun h i h1 h2 => (h i h2).resolve_left (by omega), fun h i h2 => (Nat.lt_or_ge i n).elim .inl fun h3 => .inr (h i h3 h2)⟩
theorem allFrom_step {p : Nat → Bool} {n : Nat} (h : n < 12) : allFrom p n = (p n && allFrom p (n + 1)) := by
  rw [Bool.eq_iff_iff, Bool.and_eq_true, allFrom_iff, allFrom_iff]
  exact ⟨fun k => ⟨k n (Nat.le_refl _) h, fun i h1 h2 => k i (by omega) h2⟩, fun k i h1 h2 => (Nat.eq_or_lt_of_le h1).elim (fun e => e ▸ k.1) fun h3 => k.2 i h3 h2⟩
theorem allFrom_end {p : Nat → Bool} : allFrom p 12 = true := by rw [allFrom_iff]; intro i h1 h2; omega
def HSb (x : Arr 12) : Bool := allFrom (fun i => fitsB i (x.at (i : Int))) 0
theorem inc (n : Nat) (h : n < 2 ^ 62) : IntKind.i64.wrap ((n : Int) + 1) = ((n + 1 : Nat) : Int) := by rw [wrapI (by omega) (by omega)]; simp
/-- A loop over the fields that stops at the first that does not meet a condition. -/
theorem head_Sound_l0 (k : Nat) {x : Arr 12} (hx : RG x) : ∀ (r n m : Nat), n + r = 12 → r < m → head_Sound.l0 k x m (n : Int) = some (if allFrom (fun i => fitsB i (x.at (i : Int))) n then .brk () else .ret false)
  | r, n, 0, _, h => by omega
  | 0, n, m + 1, hn, _ => by
    obtain rfl : n = 12 := by omega
    rw [head_Sound.l0, allFrom_end]
    simp
  | r + 1, n, m + 1, hn, hr => by
    have h12 : n < 12 := by omega
    rw [head_Sound.l0, if_pos (by simpa using (by omega : (n : Int) < 12)), if_pos (by omega), head_fits_at h12 (hx n h12), inc n (by omega), allFrom_step h12]
    simp only [Option.bind_some]
    cases hf : fitsB n (x.at (n : Int))
    · simp
    · simp only [Bool.not_true, Bool.false_eq_true, if_false, Bool.true_and]
      exact head_Sound_l0 k hx r (n + 1) m (by omega) (by omega)
theorem head_Sound_at {k : Nat} (hk : 12 < k) {x : Arr 12} (hx : RG x) : head_Sound k x = some (HSb x) := by
  unfold head_Sound
  rw [show (0 : Int) = ((0 : Nat) : Int) from rfl, head_Sound_l0 k hx 12 0 k rfl hk]
  simp only [Option.bind_some]
  unfold HSb
  cases allFrom (fun i => fitsB i (x.at (i : Int))) 0 <;> rfl
theorem ref01_Head_l0 (k : Nat) {x : Arr 12} : ∀ (r n m : Nat), n + r = 12 → r < m → ref01_Head.l0 k x m (n : Int) = some (if allFrom (fun i => fitsB i (x.at (i : Int))) n then .brk () else .ret false)
  | r, n, 0, _, h => by omega
  | 0, n, m + 1, hn, _ => by
    obtain rfl : n = 12 := by omega
    rw [ref01_Head.l0, allFrom_end]
    simp
  | r + 1, n, m + 1, hn, hr => by
    have h12 : n < 12 := by omega
    rw [ref01_Head.l0, if_pos (by simpa using (by omega : (n : Int) < 12)), if_pos (by omega), ref01_Size_at h12, Option.bind_some, ref01_Fits_at h12, inc n (by omega), allFrom_step h12]
    simp only [Option.bind_some]
    cases hf : fitsB n (x.at (n : Int))
    · simp
    · simp only [Bool.not_true, Bool.false_eq_true, if_false, Bool.true_and]
      exact ref01_Head_l0 k r (n + 1) m (by omega) (by omega)
theorem ref01_Head_at {k : Nat} (hk : 12 < k) {x : Arr 12} : ref01_Head k x = some (HSb x) := by
  unfold ref01_Head
  rw [show (0 : Int) = ((0 : Nat) : Int) from rfl, ref01_Head_l0 k 12 0 k rfl hk]
  simp only [Option.bind_some]
  unfold HSb
  cases allFrom (fun i => fitsB i (x.at (i : Int))) 0 <;> rfl
/-- No bit of the value lies outside of the care. -/
def insB (c : TCube) (i : Nat) : Bool := bAndNot .u64 (c.Value.at (i : Int)) (c.Care.at (i : Int)) == 0
theorem insB_iff {c : TCube} (hc : RC c) {i : Nat} (h : i < 12) : insB c i = true ↔ ∀ j, tb (c.Value.at (i : Int)) j = true → tb (c.Care.at (i : Int)) j = true := by
  unfold insB
  rw [eq0_iff (U_bAndNot _ _)]
  constructor
  · intro h1 j hj
    have := h1 j
    rw [tb_andNot (hc.v i h) (hc.c i h), hj] at this
    simpa using this
  · intro h1 j
    rw [tb_andNot (hc.v i h) (hc.c i h)]
    cases hv : tb (c.Value.at (i : Int)) j
    · rfl
    · rw [h1 j hv]; rfl
def PLb (c : TCube) : Bool := allFrom (insB c) 0
def Sb (c : TCube) : Bool := HSb c.Care && PLb c
theorem cube_Sound_l0 (k : Nat) (c : TCube) : ∀ (r n m : Nat), n + r = 12 → r < m → cube_Sound.l0 k c m (n : Int) = some (if allFrom (insB c) n then .brk () else .ret false)
  | r, n, 0, _, h => by omega
  | 0, n, m + 1, hn, _ => by
    obtain rfl : n = 12 := by omega
    rw [cube_Sound.l0, allFrom_end]
    simp
  | r + 1, n, m + 1, hn, hr => by
    have h12 : n < 12 := by omega
    rw [cube_Sound.l0, if_pos (by simpa using (by omega : (n : Int) < 12)), if_pos (by omega), inc n (by omega), allFrom_step h12]
    rw [show (bAndNot .u64 (c.Value.at (n : Int)) (c.Care.at (n : Int)) != 0) = !insB c n from rfl]
    cases hf : insB c n
    · simp
    · simp only [Bool.not_true, Bool.false_eq_true, if_false, Bool.true_and]
      exact cube_Sound_l0 k c r (n + 1) m (by omega) (by omega)
theorem cube_Sound_at {k : Nat} (hk : 12 < k) {c : TCube} (hc : RC c) : cube_Sound k c = some (Sb c) := by
  unfold cube_Sound
  rw [head_Sound_at hk hc.c, show (0 : Int) = ((0 : Nat) : Int) from rfl, cube_Sound_l0 k c 12 0 k rfl hk]
  simp only [Option.bind_some]
  unfold Sb PLb
  cases HSb c.Care
  · simp
  · cases allFrom (insB c) 0 <;> simp
theorem cube_both_at {k : Nat} (hk : 12 < k) {c d : TCube} (hc : RC c) (hd : RC d) : cube_both k c d = some (Sb c && Sb d) := by
  unfold cube_both
  rw [cube_Sound_at hk hc, cube_Sound_at hk hd]
  simp only [Option.bind_some]
  cases Sb c <;> simp
theorem ref01_Plain_l0 (k : Nat) (c : TCube) : ∀ (r n m : Nat), n + r = 12 → r < m → ref01_Plain.l0 k c m (n : Int) = some (if allFrom (insB c) n then .brk () else .ret false)
  | r, n, 0, _, h => by omega
  | 0, n, m + 1, hn, _ => by
    obtain rfl : n = 12 := by omega
    rw [ref01_Plain.l0, allFrom_end]
    simp
  | r + 1, n, m + 1, hn, hr => by
    have h12 : n < 12 := by omega
    rw [ref01_Plain.l0, if_pos (by simpa using (by omega : (n : Int) < 12)), if_pos (by omega), inc n (by omega), allFrom_step h12]
    rw [show (bAndNot .u64 (c.Value.at (n : Int)) (c.Care.at (n : Int)) != 0) = !insB c n from rfl]
    cases hf : insB c n
    · simp
    · simp only [Bool.not_true, Bool.false_eq_true, if_false, Bool.true_and]
      exact ref01_Plain_l0 k c r (n + 1) m (by omega) (by omega)
theorem ref01_Plain_at {k : Nat} (hk : 12 < k) {c : TCube} : ref01_Plain k c = some (Sb c) := by
  unfold ref01_Plain
  rw [show (0 : Int) = ((0 : Nat) : Int) from rfl, ref01_Plain_l0 k c 12 0 k rfl hk]
  simp only [Option.bind_some]
  unfold Sb PLb
  cases allFrom (insB c) 0
  · simp
  · simp [ref01_Head_at hk]
end Go.Proofs.YtgfnkigoaajllaaGreat
