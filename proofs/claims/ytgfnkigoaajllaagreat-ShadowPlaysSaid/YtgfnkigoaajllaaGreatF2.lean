/- Plain laws on the reference's texts of cubes. -/
import Derived.Test.YtgfnkigoaajllaaGreatC1
set_option linter.unusedVariables false
set_option linter.unusedSimpArgs false
set_option maxRecDepth 100000
namespace Go.Proofs.YtgfnkigoaajllaaGreat
open Go.RowKit Go.Pod

/-- The places of a text: the field, and the bit, the highest first. -/
def posF (i : Nat) : List (Nat × Nat) := (List.range (sz i)).reverse.map fun j => (i, j)
def posFrom (n : Nat) : List (Nat × Nat) := (List.range' n (12 - n)).flatMap posF
def pos : List (Nat × Nat) := posFrom 0
theorem posFrom_step {n : Nat} (h : n < 12) : posFrom n = posF n ++ posFrom (n + 1) := by
  unfold posFrom
  rw [show 12 - n = (12 - (n + 1)) + 1 by omega, List.range'_succ, List.flatMap_cons]
theorem posFrom_end : posFrom 12 = [] := rfl
theorem pos_len : pos.length = 248 := by decide
theorem posF_len (i : Nat) : (posF i).length = sz i := by simp [posF]
theorem mem_posF {i : Nat} {q : Nat × Nat} : q ∈ posF i ↔ q.1 = i ∧ q.2 < sz i := by
  unfold posF
  simp only [List.mem_map, List.mem_reverse, List.mem_range]
  exact ⟨fun ⟨j, h, e⟩ => by rw [← e]; exact ⟨rfl, h⟩, fun ⟨h1, h2⟩ => ⟨q.2, h2, by rw [← h1]⟩⟩
theorem mem_posFrom {n : Nat} {q : Nat × Nat} : q ∈ posFrom n ↔ n ≤ q.1 ∧ q.1 < 12 ∧ q.2 < sz q.1 := by
  unfold posFrom
  simp only [List.mem_flatMap, List.mem_range'_1, mem_posF]
  constructor
  · rintro ⟨i, h1, h2, h3⟩
    rw [h2]; exact ⟨h1.1, by omega, h3⟩
  · rintro ⟨h1, h2, h3⟩
    exact ⟨q.1, ⟨h1, by omega⟩, rfl, h3⟩
theorem mem_pos {q : Nat × Nat} : q ∈ pos ↔ q.1 < 12 ∧ q.2 < sz q.1 := by
  unfold pos; rw [mem_posFrom]; simp

/-! ### Bits -/
def bitsOf (v : Int) (s : Nat) : List Bool := (List.range s).reverse.map fun j => tb v j
theorem bitsOf_succ (v : Int) (s : Nat) : bitsOf v (s + 1) = tb v s :: bitsOf v s := by
  unfold bitsOf
  rw [List.range_succ, List.reverse_append]
  rfl
theorem bit1 {v : Int} (hv : U v) {j : Nat} (hj : j ≤ 64) : ((bAnd .u64 (bShr .u64 v (j : Int)) 1) == 1) = tb v j := by
  have hu : U (bShr .u64 v (j : Int)) := by
    rw [bShr64 hv hj]
    refine U_nat (Nat.lt_of_le_of_lt (Nat.shiftRight_le _ _) ?_)
    unfold U at hv; omega
  have h1 : U 1 := ⟨by decide, by decide⟩
  rw [bAnd64 hu h1, bShr64 hv hj]
  rw [Int.toNat_natCast, show (1 : Int).toNat = 1 from rfl, Nat.and_one_is_mod]
  unfold tb
  rw [Nat.testBit_eq_decide_div_mod_eq, Nat.shiftRight_eq_div_pow]
  rw [Bool.eq_iff_iff, beq_iff_eq, decide_eq_true_eq]
  omega
theorem ref01_Bits_l0 (k : Nat) {v : Int} (hv : U v) : ∀ (s m : Nat) (acc : List Bool), s ≤ 64 → s < m → acc.length + s ≤ 1000 → ref01_Bits.l0 k v m acc ((s : Int) - 1) = some (acc ++ bitsOf v s)
  | s, 0, _, _, h, _ => by omega
  | 0, m + 1, acc, _, _, _ => by
    rw [ref01_Bits.l0, if_neg (by decide)]
    simp [bitsOf]
  | s + 1, m + 1, acc, hs, hm, hl => by
    have e : ((s + 1 : Nat) : Int) - 1 = (s : Int) := by omega
    have e2 : IntKind.u64.wrap (s : Int) = (s : Int) := wrap64 (U_nat (by omega))
    have e3 : IntKind.i64.wrap ((s : Int) - 1) = (s : Int) - 1 := wrapI (by omega) (by omega)
    rw [ref01_Bits.l0, e, if_pos (decide_eq_true (Int.natCast_nonneg s)), e2, if_pos (by omega), app_some (by simp; omega), Option.bind_some, e3, bit1 hv (by omega), ref01_Bits_l0 k hv s m _ (by omega) (by omega) (by simp; omega), bitsOf_succ]
    simp
theorem ref01_Bits_at {k : Nat} (hk : 64 < k) {v : Int} (hv : U v) {s : Nat} (hs : s ≤ 64) : ref01_Bits k v (s : Int) = some (bitsOf v s) := by
  unfold ref01_Bits
  rw [wrapI (by omega) (by omega), ref01_Bits_l0 k hv s k [] hs (by omega) (by simp; omega)]
  simp

/-! ### Text -/
/-- The letter at a place. -/
def lt (c : TCube) (q : Nat × Nat) : Int := if tb (c.Care.at (q.1 : Int)) q.2 then (if tb (c.Value.at (q.1 : Int)) q.2 then 49 else 48) else 120
def zipT (vs cs : List Bool) : List Int := List.zipWith (fun v c => if c then (if v then 49 else 48) else 120) vs cs
theorem ref01_Text_l1 (k : Nat) (vs cs : List Bool) (hvc : vs.length = cs.length) : ∀ (r n m : Nat) (acc : List Int), n + r = vs.length → vs.length ≤ 64 → r < m → acc.length + r ≤ 1000 →
    ref01_Text.l1 k vs cs m acc (n : Int) = some (acc ++ zipT (vs.drop n) (cs.drop n))
  | r, n, 0, _, _, _, h, _ => by omega
  | 0, n, m + 1, acc, hn, _, _, _ => by
    rw [ref01_Text.l1, if_neg (by simp only [decide_eq_true_eq]; omega), List.drop_of_length_le (by omega)]
    simp [zipT]
  | r + 1, n, m + 1, acc, hn, h64, hm, hl => by
    have h1 : n < vs.length := by omega
    have h2 : n < cs.length := by omega
    rw [ref01_Text.l1, if_pos (by simp only [decide_eq_true_eq]; omega), idx_nat h1, idx_nat h2, inc n (by omega)]
    rw [List.drop_eq_getElem_cons h1, List.drop_eq_getElem_cons h2]
    simp only [Option.bind_some]
    have hx : ∀ x : Int, app 1 acc [x] = some (acc ++ [x]) := fun x => app_some (by simp; omega)
    have key : ∀ x : Int, ref01_Text.l1 k vs cs m (acc ++ [x]) ((n + 1 : Nat) : Int) = some (acc ++ [x] ++ zipT (vs.drop (n + 1)) (cs.drop (n + 1))) := fun x =>
      ref01_Text_l1 k vs cs hvc r (n + 1) m _ (by omega) h64 (by omega) (by simp; omega)
    cases hc : cs[n] <;> cases hv : vs[n] <;> simp only [hc, hv, hx, Bool.not_false, Bool.not_true, if_true, if_false, Bool.false_eq_true, Option.bind_some, key] <;> simp [zipT, hc, hv]
theorem zipT_bits (v c : Int) (f : Nat × Nat → Int) (i s : Nat) (h : ∀ j, j < s → f (i, j) = if tb c j then (if tb v j then 49 else 48) else 120) :
    zipT (bitsOf v s) (bitsOf c s) = ((List.range s).reverse.map fun j => (i, j)).map f := by
  unfold zipT bitsOf
  rw [List.zipWith_map, List.map_map]
  rw [List.zipWith_self]
  refine List.map_congr_left fun j hj => ?_
  rw [List.mem_reverse, List.mem_range] at hj
  exact (h j hj).symm
theorem ref01_Text_l0 {k : Nat} (hk : 64 < k) {c : TCube} (hc : RC c) : ∀ (r n m : Nat) (acc : List Int) (ok : Bool), n + r = 12 → r < m → acc.length + (posFrom n).length ≤ 500 →
    ref01_Text.l0 k c m acc ok (n : Int) = some (acc ++ (posFrom n).map (lt c), ok && allFrom (insB c) n)
  | r, n, 0, _, _, _, h, _ => by omega
  | 0, n, m + 1, acc, ok, hn, _, _ => by
    obtain rfl : n = 12 := by omega
    rw [ref01_Text.l0, if_neg (by decide), allFrom_end, posFrom_end]
    simp
  | r + 1, n, m + 1, acc, ok, hn, hm, hl => by
    have h12 : n < 12 := by omega
    have h48 : sz n ≤ 48 := sz_le
    have hlen : (bitsOf (c.Value.at (n : Int)) (sz n)).length = sz n := by simp [bitsOf]
    have hlen2 : (bitsOf (c.Care.at (n : Int)) (sz n)).length = sz n := by simp [bitsOf]
    rw [posFrom_step h12, List.length_append, posF_len] at hl
    rw [ref01_Text.l0, if_pos (by simp only [decide_eq_true_eq]; omega), if_pos (by omega), inc n (by omega), ref01_Size_at h12]
    rw [show (bAndNot .u64 (c.Value.at (n : Int)) (c.Care.at (n : Int)) != 0) = !insB c n from rfl]
    simp only [Option.bind_some]
    rw [ref01_Bits_at hk (hc.v n h12) (by omega), ref01_Bits_at hk (hc.c n h12) (by omega)]
    simp only [Option.bind_some]
    rw [show (0 : Int) = ((0 : Nat) : Int) from rfl, ref01_Text_l1 k _ _ (hlen.trans hlen2.symm) (sz n) 0 k acc (by omega) (by omega) (by omega) (by omega)]
    have hz : zipT (bitsOf (c.Value.at (n : Int)) (sz n)) (bitsOf (c.Care.at (n : Int)) (sz n)) = (posF n).map (lt c) := zipT_bits _ _ (lt c) n (sz n) fun j _ => rfl
    simp only [List.drop_zero, hz, Option.bind_some]
    have ih := fun ok' => ref01_Text_l0 hk hc r (n + 1) m (acc ++ (posF n).map (lt c)) ok' (by omega) (by omega) (by simp [posF_len]; omega)
    rw [posFrom_step h12, allFrom_step h12]
    cases hi : insB c n
    · simp only [Bool.not_false, if_true, Option.bind_some, ih]; simp
    · simp only [Bool.not_true, Bool.false_eq_true, if_false, Option.bind_some, ih]; simp
def textOf (f : Nat × Nat → Int) : ByteArray := strOfNums (pos.map f)
theorem ref01_Text_at {k : Nat} (hk : 64 < k) {c : TCube} (hc : RC c) : ref01_Text k c = some (textOf (lt c), Sb c) := by
  unfold ref01_Text
  rw [ref01_Head_at (by omega), Option.bind_some, show (0 : Int) = ((0 : Nat) : Int) from rfl, ref01_Text_l0 hk hc 12 0 k [] (HSb c.Care) rfl (by omega) (by rw [show posFrom 0 = pos from rfl, pos_len]; decide)]
  rfl

/-! ### Whole -/
def ltW (x : Arr 12) (q : Nat × Nat) : Int := if tb (x.at (q.1 : Int)) q.2 then 49 else 48
end Go.Proofs.YtgfnkigoaajllaaGreat
