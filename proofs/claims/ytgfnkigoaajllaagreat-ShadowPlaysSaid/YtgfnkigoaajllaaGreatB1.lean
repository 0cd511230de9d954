/- Plain laws on 64-bit words, rows of bits and their numbers. Nothing of the program in it. -/
import Derived.Test.YtgfnkigoaajllaaGreatL11
set_option linter.unusedVariables false
set_option linter.unusedSimpArgs false
namespace Go.Pod
open Go.RowKit

def U (x : Int) : Prop := 0 ≤ x ∧ x < 2 ^ 64
def tb (x : Int) (j : Nat) : Bool := x.toNat.testBit j
theorem wrap64 {x : Int} (h : U x) : IntKind.u64.wrap x = x := by
  unfold U at h
  simp only [IntKind.wrap, IntKind.signed, IntKind.bits, Bool.false_and, Bool.false_eq_true, if_false]
  omega
theorem U_wrap (x : Int) : U (IntKind.u64.wrap x) := by
  unfold U
  simp only [IntKind.wrap, IntKind.signed, IntKind.bits, Bool.false_and, Bool.false_eq_true, if_false]
  omega
theorem U_nat {n : Nat} (h : n < 2 ^ 64) : U (n : Int) := ⟨by omega, by omega⟩
theorem ofInt64 {x : Int} (h : U x) : (BitVec.ofInt 64 x).toNat = x.toNat := by
  unfold U at h
  rw [BitVec.toNat_ofInt]
  congr 1
  omega
theorem bAnd64 {x y : Int} (hx : U x) (hy : U y) : bAnd .u64 x y = ((x.toNat &&& y.toNat : Nat) : Int) := by
  unfold bAnd
  rw [show IntKind.bits .u64 = 64 from rfl, BitVec.toNat_and, ofInt64 hx, ofInt64 hy]
  exact wrap64 (U_nat (Nat.lt_of_le_of_lt Nat.and_le_left (by unfold U at hx; omega)))
theorem bOr64 {x y : Int} (hx : U x) (hy : U y) : bOr .u64 x y = ((x.toNat ||| y.toNat : Nat) : Int) := by
  unfold bOr
  rw [show IntKind.bits .u64 = 64 from rfl, BitVec.toNat_or, ofInt64 hx, ofInt64 hy]
  exact wrap64 (U_nat (Nat.or_lt_two_pow (by unfold U at hx; omega) (by unfold U at hy; omega)))
theorem bXor64 {x y : Int} (hx : U x) (hy : U y) : bXor .u64 x y = ((x.toNat ^^^ y.toNat : Nat) : Int) := by
  unfold bXor
  rw [show IntKind.bits .u64 = 64 from rfl, BitVec.toNat_xor, ofInt64 hx, ofInt64 hy]
  exact wrap64 (U_nat (Nat.xor_lt_two_pow (by unfold U at hx; omega) (by unfold U at hy; omega)))
theorem toNat_andNot {x y : Int} (hx : U x) : (BitVec.ofInt 64 x &&& ~~~ BitVec.ofInt 64 y).toNat < 2 ^ 64 := (BitVec.ofInt 64 x &&& ~~~ BitVec.ofInt 64 y).isLt
theorem bAndNot64 {x y : Int} : bAndNot .u64 x y = (((BitVec.ofInt 64 x &&& ~~~ BitVec.ofInt 64 y).toNat : Nat) : Int) := by
  unfold bAndNot
  rw [show IntKind.bits .u64 = 64 from rfl]
  exact wrap64 (U_nat (BitVec.isLt _))
theorem U_bAnd (x y : Int) : U (bAnd .u64 x y) := U_wrap _
theorem U_bOr (x y : Int) : U (bOr .u64 x y) := U_wrap _
theorem U_bXor (x y : Int) : U (bXor .u64 x y) := U_wrap _
theorem U_bAndNot (x y : Int) : U (bAndNot .u64 x y) := U_wrap _
theorem U_bNot (x : Int) : U (bNot .u64 x) := U_wrap _
theorem U_bShl (x y : Int) : U (bShl .u64 x y) := U_wrap _
theorem U_zero : U 0 := ⟨by decide, by decide⟩
theorem tb_and {x y : Int} (hx : U x) (hy : U y) (j : Nat) : tb (bAnd .u64 x y) j = (tb x j && tb y j) := by
  rw [bAnd64 hx hy]; simp [tb, Nat.testBit_and]
theorem tb_or {x y : Int} (hx : U x) (hy : U y) (j : Nat) : tb (bOr .u64 x y) j = (tb x j || tb y j) := by
  rw [bOr64 hx hy]; simp [tb, Nat.testBit_or]
theorem tb_xor {x y : Int} (hx : U x) (hy : U y) (j : Nat) : tb (bXor .u64 x y) j = (tb x j ^^ tb y j) := by
  rw [bXor64 hx hy]; simp [tb, Nat.testBit_xor]
theorem tb_andNot {x y : Int} (hx : U x) (hy : U y) (j : Nat) : tb (bAndNot .u64 x y) j = (tb x j && !tb y j) := by
  rw [bAndNot64]
  unfold tb
  rw [Int.toNat_natCast]
  by_cases hj : j < 64
  · have e1 : (BitVec.ofInt 64 x).toNat.testBit j = x.toNat.testBit j := by rw [ofInt64 hx]
    have e2 : (BitVec.ofInt 64 y).toNat.testBit j = y.toNat.testBit j := by rw [ofInt64 hy]
    rw [BitVec.testBit_toNat] at e1 e2
    rw [BitVec.testBit_toNat, BitVec.getLsbD_and, BitVec.getLsbD_not, e1, e2]
    simp [hj]
  · have h1 : x.toNat.testBit j = false := Nat.testBit_lt_two_pow (Nat.lt_of_lt_of_le (by unfold U at hx; omega : x.toNat < 2 ^ 64) (Nat.pow_le_pow_right (by omega) (by omega)))
    rw [h1, Nat.testBit_lt_two_pow (Nat.lt_of_lt_of_le (BitVec.isLt _) (Nat.pow_le_pow_right (by omega) (by omega)))]
    rfl
theorem tb_big {x : Int} (hx : U x) {j : Nat} (hj : 64 ≤ j) : tb x j = false :=
  Nat.testBit_lt_two_pow (Nat.lt_of_lt_of_le (by unfold U at hx; omega : x.toNat < 2 ^ 64) (Nat.pow_le_pow_right (by omega) hj))
theorem tb_ext {x y : Int} (hx : U x) (hy : U y) (h : ∀ j, tb x j = tb y j) : x = y := by
  have : x.toNat = y.toNat := Nat.eq_of_testBit_eq h
  unfold U at hx hy
  omega
theorem tb_zero (j : Nat) : tb 0 j = false := by simp [tb]
theorem eq0_iff {x : Int} (hx : U x) : (x == 0) = true ↔ ∀ j, tb x j = false := by
  rw [beq_iff_eq]
  exact ⟨fun h j => by rw [h]; exact tb_zero j, fun h => tb_ext hx U_zero fun j => by rw [h j, tb_zero]⟩
theorem ne0_iff {x : Int} (hx : U x) : (x != 0) = true ↔ ∃ j, tb x j = true := by
  rw [bne_iff_ne, ne_eq, ← beq_iff_eq, eq0_iff hx]
  constructor
  · intro h
    refine Classical.byContradiction fun hn => h fun j => ?_
    cases hj : tb x j
    · rfl
    · exact absurd ⟨j, hj⟩ hn
  · rintro ⟨j, hj⟩ h
    rw [h j] at hj; cases hj
theorem tb_lt {x : Int} {s : Nat} (h0 : 0 ≤ x) (h : x < 2 ^ s) {j : Nat} (hj : s ≤ j) : tb x j = false := by
  refine Nat.testBit_lt_two_pow (Nat.lt_of_lt_of_le (?_ : x.toNat < 2 ^ s) (Nat.pow_le_pow_right (by omega) hj))
  have : ((x.toNat : Nat) : Int) < ((2 ^ s : Nat) : Int) := by rw [Int.toNat_of_nonneg h0]; simpa using h
  exact Int.ofNat_lt.1 this
theorem lt_of_tb {x : Int} {s : Nat} (h0 : 0 ≤ x) (h : ∀ j, s ≤ j → tb x j = false) : x < 2 ^ s := by
  have h1 : x.toNat < 2 ^ s := Nat.lt_pow_two_of_testBit _ fun j hj => h j hj
  have : ((x.toNat : Nat) : Int) < ((2 ^ s : Nat) : Int) := Int.ofNat_lt.2 h1
  rw [Int.toNat_of_nonneg h0] at this
  simpa using this
theorem bShl1 {j : Nat} (hj : j < 64) : bShl .u64 1 (j : Int) = ((2 ^ j : Nat) : Int) := by
  unfold bShl
  rw [show IntKind.bits .u64 = 64 from rfl, Int.toNat_natCast, Nat.min_eq_left (by omega), Int.one_mul]
  have : ((2 : Int) ^ j) = ((2 ^ j : Nat) : Int) := by simp
  rw [this]
  exact wrap64 (U_nat (Nat.pow_lt_pow_right (by omega) hj))
theorem tb_shl1 {j : Nat} (hj : j < 64) (i : Nat) : tb (bShl .u64 1 (j : Int)) i = decide (j = i) := by
  rw [bShl1 hj]; unfold tb; rw [Int.toNat_natCast, Nat.testBit_two_pow]
theorem bShr64 {x : Int} {j : Nat} (hx : U x) (hj : j ≤ 64) : bShr .u64 x (j : Int) = ((x.toNat >>> j : Nat) : Int) := by
  unfold bShr
  rw [show IntKind.bits .u64 = 64 from rfl, Int.toNat_natCast, Nat.min_eq_left hj, Nat.shiftRight_eq_div_pow]
  have h0 := hx.1
  rw [Int.fdiv_eq_ediv_of_nonneg _ (Int.le_of_lt (Int.pow_pos (by decide)))]
  have e : x = ((x.toNat : Nat) : Int) := (Int.toNat_of_nonneg h0).symm
  rw [e, Int.toNat_natCast]
  simp
theorem tb_shr {x : Int} {j : Nat} (hx : U x) (hj : j ≤ 64) (i : Nat) : tb (bShr .u64 x (j : Int)) i = tb x (j + i) := by
  rw [bShr64 hx hj]; unfold tb; rw [Int.toNat_natCast, Nat.testBit_shiftRight]
theorem tb_not {x : Int} (hx : U x) {j : Nat} (hj : j < 64) : tb (bNot .u64 x) j = !tb x j := by
  unfold bNot
  have hm : (if IntKind.signed .u64 = true then (-1 : Int) else IntKind.max .u64) = ((2 ^ 64 - 1 : Nat) : Int) := by decide
  rw [hm, tb_xor (U_nat (by decide)) hx]
  have : tb ((2 ^ 64 - 1 : Nat) : Int) j = true := by simp only [tb, Int.toNat_natCast, Nat.testBit_two_pow_sub_one]; simpa using hj
  rw [this]; cases tb x j <;> rfl

/-! ### Rows of bits, the highest first, and their numbers -/
def numB (l : List Bool) : Nat := l.foldl (fun a b => a * 2 + b.toNat) 0
def num (f : Nat → Bool) : Nat → Nat
  | 0 => 0
  | s + 1 => (f s).toNat * 2 ^ s + num f s
theorem num_lt (f : Nat → Bool) : ∀ s, num f s < 2 ^ s
  | 0 => by simp [num]
  | s + 1 => by
    have := num_lt f s
    have hp : 2 ^ (s + 1) = 2 ^ s * 2 := Nat.pow_succ ..
    unfold num
    cases f s <;> simp <;> omega
theorem num_bit (f : Nat → Bool) : ∀ s j, (num f s).testBit j = (decide (j < s) && f j)
  | 0, j => by simp [num]
  | s + 1, j => by
    unfold num
    rw [Nat.mul_comm, Nat.testBit_two_pow_mul_add _ (num_lt f s)]
    by_cases h : j < s
    · simp [h, num_bit f s j, Nat.lt_succ_of_lt h]
    · by_cases h2 : j = s
      · subst h2; simp
        cases f j <;> rfl
      · have : ¬ j < s + 1 := by omega
        simp only [h, if_false, this, decide_false, Bool.false_and]
        have h3 : 0 < j - s := by omega
        cases f s
        · simp
        · exact Nat.testBit_lt_two_pow (Nat.one_lt_two_pow (by omega))
theorem tb_num (f : Nat → Bool) (s j : Nat) : tb ((num f s : Nat) : Int) j = (decide (j < s) && f j) := by simp [tb, num_bit]
theorem foldl_bits (f : Nat → Bool) : ∀ (s a : Nat), ((List.range s).reverse.map f).foldl (fun a b => a * 2 + b.toNat) a = a * 2 ^ s + num f s
  | 0, a => by simp [num]
  | s + 1, a => by
    rw [List.range_succ, List.reverse_append]
    simp only [List.reverse_cons, List.reverse_nil, List.nil_append, List.cons_append, List.map_cons, List.foldl_cons]
    rw [foldl_bits f s]
    rw [show num f (s + 1) = (f s).toNat * 2 ^ s + num f s from rfl, Nat.add_mul, Nat.mul_assoc, Nat.pow_succ, Nat.mul_comm (2 ^ s) 2]
    omega

/-! ### Strings of numbers -/
def Byt (l : List Int) : Prop := ∀ x ∈ l, 0 ≤ x ∧ x < 256
theorem byteAt_nums {l : List Int} (h : Byt l) {p : Nat} (hp : p < l.length) : byteAt (strOfNums l) (p : Int) = l[p] := by
  have hs : p < (strOfNums l).size := by rw [strOfNums_size]; exact hp
  unfold byteAt
  simp only [Int.toNat_natCast, hs, dif_pos]
  have hx := h l[p] (List.getElem_mem hp)
  have e : (strOfNums l)[p] = UInt8.ofNat l[p].toNat := by
    simp [strOfNums, ByteArray.getElem_eq_getElem_data]
  rw [e, UInt8.toNat_ofNat', Nat.mod_eq_of_lt (by omega)]
  omega
theorem bytesL_nums {l : List Int} (h : Byt l) : bytesL (strOfNums l) = l := by
  unfold bytesL
  rw [strOfNums_data, List.map_map]
  refine (List.map_congr_left fun x hx => ?_).trans (List.map_id l)
  have := h x hx
  simp only [Function.comp, UInt8.toNat_ofNat']
  rw [Nat.mod_eq_of_lt (by omega)]
  exact Int.toNat_of_nonneg this.1
theorem toBytes_nums {l : List Int} (h : Byt l) (hl : l.length ≤ 140737488351232) : toBytes (strOfNums l) = some l := by
  unfold toBytes
  rw [strOfNums_size, if_pos hl, bytesL_nums h]
theorem app_some {α : Type} {b : Nat} {xs ys : List α} (h : (xs.length + ys.length) * b ≤ 140737488355328) : app b xs ys = some (xs ++ ys) := by
  unfold app; rw [if_pos h]
theorem wrapI {x : Int} (h0 : -9223372036854775808 ≤ x) (h1 : x < 9223372036854775808) : IntKind.i64.wrap x = x := by
  simp only [IntKind.wrap, IntKind.signed, IntKind.bits, Bool.true_and, decide_eq_true_eq, ge_iff_le]
  split <;> omega
theorem idx_nat {α : Type} {xs : List α} {p : Nat} (h : p < xs.length) : idx xs (p : Int) = some xs[p] := by
  unfold idx
  rw [if_pos (by omega), Int.toNat_natCast]
  exact List.getElem?_eq_getElem h
theorem cellsEq_refl : ∀ (l : List Value), (∀ v ∈ l, leafEq v v = true) → cellsEq l l = true
  | [], _ => rfl
  | v :: l, h => by simp only [cellsEq, h v (by simp), cellsEq_refl l fun x hx => h x (by simp [hx]), Bool.and_self]
theorem Arr.at_nat {n : Nat} (x : Arr n) {i : Nat} (h : i < n) : x.at (i : Int) = x ⟨i, h⟩ := by simp [Arr.at, h]
theorem Arr.ext {n : Nat} {x y : Arr n} (h : ∀ i : Nat, i < n → x.at (i : Int) = y.at (i : Int)) : x = y := by
  funext ⟨i, hi⟩
  have := h i hi
  rwa [Arr.at_nat x hi, Arr.at_nat y hi] at this
theorem Arr.at_upd {n : Nat} (x : Arr n) {i j : Nat} (h : j < n) (v : Int) : (x.upd (i : Int) v).at (j : Int) = if j = i then v else x.at (j : Int) := by
  rw [Arr.at_nat _ h, Arr.at_nat _ h]
  unfold Arr.upd
  simp only [Int.toNat_natCast]
  by_cases hij : j = i
  · subst hij; simp
  · rw [if_neg hij]
    have : Nat.beq j i = false := by
      cases h : Nat.beq j i
      · rfl
      · exact absurd (Nat.eq_of_beq_eq_true h) hij
    rw [this]; rfl
end Go.Pod
