/- Plain words for walks: '==' of structs and arrays, slices that are made and cut, strings. Nothing of the program in it. -/
import Derived.Test.YtgfnkigoaajllaaGreatL6
import Derived.Lib.ConvBytes
set_option linter.unusedVariables false
set_option linter.unusedSimpArgs false
namespace Go.Pod
open Go.RowKit

/-! ### '==' of structs and arrays of whole numbers, bools and strings -/
def leafEq : Value → Value → Bool
  | .int _ a, .int _ b => a == b
  | .bool a, .bool b => a == b
  | .string a, .string b => a.toList == b.toList
  | _, _ => false
def cellsEq : List Value → List Value → Bool
  | x :: xs, y :: ys => leafEq x y && cellsEq xs ys
  | _, _ => true
theorem cellsEq_append : ∀ (a b c d : List Value), a.length = b.length → cellsEq (a ++ c) (b ++ d) = (cellsEq a b && cellsEq c d)
  | [], [], c, d, _ => by simp [cellsEq]
  | x :: a, y :: b, c, d, h => by
    simp only [List.cons_append, cellsEq, cellsEq_append a b c d (by simpa using h), Bool.and_assoc]
/-- A leaf's kind fits the type's. -/
def leafFits : TypeDesc → Value → Value → Bool
  | .int _, .int k _, .int k' _ => decide (k = k')
  | .bool, .bool _, .bool _ => true
  | .string, .string _, .string _ => true
  | _, _, _ => false
def leafL (u : TypeDesc) : List Value → List Value → Bool
  | [x], [y] => leafFits u x y
  | _, _ => false
def fitsF (P : Program) (rec : TypeId → List Value → List Value → Bool) : List Field → Nat → List Value → List Value → Bool
  | [], o, xs, ys => decide (xs.length = o) && decide (ys.length = o)
  | f :: fs, o, xs, ys => match pSz P f.type with
    | some s => decide (f.name ≠ "_") && decide (f.offset = o) && rec f.type ((xs.drop o).take s) ((ys.drop o).take s) && fitsF P rec fs (o + s) xs ys
    | none => false
/-- Two rows of cells that fit a type, laid out from left to right; what stands behind is left. -/
def fits2 (P : Program) : Nat → TypeId → List Value → List Value → Bool
  | 0, _, _, _ => false
  | d + 1, t, xs, ys =>
    match P.underlying t with
    | some (.array n e) => match pSz P e with
      | some s => decide (xs.length = n * s) && decide (ys.length = n * s) && (List.range n).all fun i => fits2 P d e ((xs.drop (i * s)).take s) ((ys.drop (i * s)).take s)
      | none => false
    | some (.struct fs) => !P.stoodInHeld t && fitsF P (fits2 P d) fs.toList 0 xs ys
    | some u => leafL u xs ys
    | none => false

def isAggD : TypeDesc → Bool
  | .struct _ | .array _ _ => true
  | _ => false
/-- The value whose cells these are. -/
def aggV (b : Bool) (cs : List Value) : Value := if b then .agg cs.toArray else (cs.head?).getD undef

def eqElems (d : Nat) (e : TypeId) (s : Nat) (xs ys : Array Value) : List Nat → Sem Bool
  | [] => pure true
  | i :: is => do
    let a ← part e xs (i * s)
    let b ← part e ys (i * s)
    let r ← Op.equalIn d e a b
    if (!r) = true then pure false else eqElems d e s xs ys is
theorem run_equalIn_array {P : Program} (W : World) (d : Nat) (t e : TypeId) (n s : Nat) (xs ys : Array Value) (ht : P.underlying t = some (.array n e)) (hs : pSz P e = some s) :
    (Op.equalIn (d + 1) t (.agg xs) (.agg ys)).run P W = (eqElems d e s xs ys (List.range n)).run P W := by
  simp only [Op.equalIn, Sem.run_bind, run_underlying ht, Result.andThen_ok, run_sizeOf' hs]
  rw [Std.Legacy.Range.forIn_eq_forIn_range']
  simp only [Std.Legacy.Range.size, Nat.sub_zero, Nat.add_sub_cancel, Nat.div_one]
  rw [← List.range_eq_range']
  generalize List.range n = is
  induction is generalizing W with
  | nil => simp [eqElems]
  | cons i is ih =>
    simp only [List.forIn_cons, eqElems, Sem.run_bind]
    generalize (part e xs (i * s)).run P W = r1
    cases r1 with
    | ok a w1 =>
      simp only [Result.andThen_ok]
      generalize (part e ys (i * s)).run P w1 = r2
      cases r2 with
      | ok b w2 =>
        simp only [Result.andThen_ok]
        generalize (Op.equalIn d e a b).run P w2 = r3
        cases r3 with
        | ok r w3 =>
          cases r
          · simp only [Result.andThen_ok, Bool.not_false, if_true, Sem.run_pure]
          · simp only [Result.andThen_ok, Bool.not_true, Bool.false_eq_true, if_false, Sem.run_pure]
            exact ih w3
        | halt x w3 => simp [Result.andThen]
      | halt x w2 => simp [Result.andThen]
    | halt x w1 => simp [Result.andThen]

theorem leafL_len {u : TypeDesc} {xs ys : List Value} {s : Nat} (h : leafL u xs ys = true) (l : xs.length = s) : s = 1 := by
  match xs, ys, h with
  | [x], [y], _ => simpa using l.symm
theorem run_part {P : Program} (W : World) {t : TypeId} {u : TypeDesc} {s o : Nat} {cs vs : List Value} (hu : P.underlying t = some u) (hs : pSz P t = some s) (hv : (cs.drop o).take s = vs) (hl : vs.length = s) (h1 : isAggD u = false → s = 1) :
    (part t cs.toArray o).run P W = .ok (aggV (isAggD u) vs) W := by
  have hag : (isAgg t).run P W = .ok (isAggD u) W := by
    simp only [isAgg, Sem.run_bind, run_underlying hu, Result.andThen_ok]
    cases u <;> simp [isAggD]
  simp only [part, Sem.run_bind, hag, Result.andThen_ok]
  cases hb : isAggD u with
  | true => simp [run_sizeOf' hs, aggV, List.extract_eq_take_drop, hv]
  | false =>
    have hs1 := h1 hb
    subst hs1
    match vs, hl with
    | [v], _ =>
      have : cs[o]? = some v := by
        have := congrArg (fun l => l[0]?) hv
        simpa [List.getElem?_take, List.getElem?_drop] using this
      simp [this, aggV]

theorem drop_split (xs : List Value) (o s : Nat) : xs.drop o = (xs.drop o).take s ++ xs.drop (o + s) := by
  rw [← List.drop_drop, List.take_append_drop]

/-- **'==' of what is made of whole numbers, bools and strings.** -/
theorem run_equalIn_fits {P : Program} : ∀ (d : Nat) (W : World) (t : TypeId) (u : TypeDesc) (xs ys : List Value), P.underlying t = some u → fits2 P d t xs ys = true →
    (Op.equalIn d t (aggV (isAggD u) xs) (aggV (isAggD u) ys)).run P W = .ok (cellsEq xs ys) W
  | 0, W, t, u, xs, ys, hu, h => by simp [fits2] at h
  | d + 1, W, t, u, xs, ys, hu, h => by
    unfold fits2 at h
    rw [hu] at h
    have leaf : isAggD u = false → leafL u xs ys = true → (Op.equalIn (d + 1) t (aggV (isAggD u) xs) (aggV (isAggD u) ys)).run P W = .ok (cellsEq xs ys) W := by
      intro hb hl
      rw [hb]
      match xs, ys, hl with
      | [x], [y], hl =>
        simp only [aggV, Bool.false_eq_true, if_false, List.head?_cons, Option.getD_some]
        simp only [leafL] at hl
        cases u <;> cases x <;> cases y <;> simp [leafFits] at hl
        · simp [Op.equalIn, run_underlying hu, cellsEq, leafEq]
        · subst hl; simp [Op.equalIn, run_underlying hu, cellsEq, leafEq]
        · simp [Op.equalIn, run_underlying hu, cellsEq, leafEq, beq_toListBytes]
    cases u with
    | array n e =>
      simp only at h
      cases hs : pSz P e with
      | none => rw [hs] at h; cases h
      | some s =>
        rw [hs] at h
        simp only [Bool.and_eq_true, decide_eq_true_eq, List.all_eq_true, List.mem_range] at h
        obtain ⟨⟨hx, hy⟩, hall⟩ := h
        simp only [isAggD, aggV, if_true]
        rw [run_equalIn_array W d t e n s _ _ hu hs]
        have key : ∀ m k, k + m = n → (eqElems d e s xs.toArray ys.toArray (List.range' k m)).run P W = .ok (cellsEq (xs.drop (k * s)) (ys.drop (k * s))) W := by
          intro m
          induction m with
          | zero =>
            intro k hk
            have e1 : xs.drop (k * s) = [] := List.drop_of_length_le (by rw [hx, show k = n from by omega]; exact Nat.le_refl _)
            simp [eqElems, e1, cellsEq]
          | succ m ih =>
            intro k hk
            have hk' := hall k (by omega)
            have hks : (k + 1) * s ≤ n * s := Nat.mul_le_mul_right _ (by omega)
            rw [Nat.add_mul, Nat.one_mul] at hks
            have lx : ((xs.drop (k * s)).take s).length = s := by simp; omega
            have ly : ((ys.drop (k * s)).take s).length = s := by simp; omega
            cases he : P.underlying e with
            | none => cases d with
              | zero => simp [fits2] at hk'
              | succ d => simp [fits2, he] at hk'
            | some ue =>
              have h1 : isAggD ue = false → s = 1 := by
                intro hb
                cases d with
                | zero => simp [fits2] at hk'
                | succ d =>
                  unfold fits2 at hk'
                  rw [he] at hk'
                  cases ue <;> simp only [isAggD, reduceCtorEq] at hb <;> simp only at hk' <;> exact leafL_len hk' lx
              have px := run_part (P := P) W (cs := xs) (o := k * s) he hs rfl lx h1
              have py := run_part (P := P) W (cs := ys) (o := k * s) he hs rfl ly h1
              have heq := run_equalIn_fits d W e ue _ _ he hk'
              simp only [List.range'_succ, eqElems, Sem.run_bind, px, py, heq, Result.andThen_ok]
              have e1 := cellsEq_append _ _ (xs.drop (k * s + s)) (ys.drop (k * s + s)) (lx.trans ly.symm)
              rw [← drop_split xs (k * s) s, ← drop_split ys (k * s) s] at e1
              rw [e1]
              have ih' := ih (k + 1) (by omega)
              rw [Nat.add_mul, Nat.one_mul] at ih'
              cases hc : cellsEq ((xs.drop (k * s)).take s) ((ys.drop (k * s)).take s)
              · simp
              · simpa using ih'
        have := key n 0 (by omega)
        rw [← List.range_eq_range'] at this
        simpa using this
    | struct fs =>
      simp only [Bool.and_eq_true, Bool.not_eq_true'] at h
      obtain ⟨hst, hf⟩ := h
      have hfo : P.underlying t = some (.struct (P.fieldsOf t)) := by simp [Program.fieldsOf, hu]
      have hfe : P.fieldsOf t = fs := by simp [Program.fieldsOf, hu]
      simp only [isAggD, aggV, if_true]
      rw [run_equalIn_struct W d t xs.toArray ys.toArray hfo hst, hfe]
      have key : ∀ (l : List Field) (o : Nat), fitsF P (fits2 P d) l o xs ys = true → (Op.eqFields d xs.toArray ys.toArray l).run P W = .ok (cellsEq (xs.drop o) (ys.drop o)) W := by
        intro l
        induction l with
        | nil =>
          intro o ho
          simp only [fitsF, Bool.and_eq_true, decide_eq_true_eq] at ho
          simp [Op.eqFields, ← ho.1, cellsEq]
        | cons f l ih =>
          intro o ho
          simp only [fitsF] at ho
          cases hs : pSz P f.type with
          | none => rw [hs] at ho; cases ho
          | some s =>
            rw [hs] at ho
            simp only [Bool.and_eq_true, decide_eq_true_eq] at ho
            obtain ⟨⟨⟨hn, hoff⟩, hk'⟩, hrest⟩ := ho
            have hlen : ∀ (l : List Field) (o : Nat), fitsF P (fits2 P d) l o xs ys = true → o ≤ xs.length ∧ o ≤ ys.length := by
              intro l
              induction l with
              | nil => intro o ho; simp only [fitsF, Bool.and_eq_true, decide_eq_true_eq] at ho; omega
              | cons g l ih2 =>
                intro o ho
                simp only [fitsF] at ho
                cases hs2 : pSz P g.type with
                | none => rw [hs2] at ho; cases ho
                | some s2 =>
                  rw [hs2] at ho
                  simp only [Bool.and_eq_true, decide_eq_true_eq] at ho
                  have := ih2 _ ho.2
                  omega
            have hle := hlen l (o + s) hrest
            have lx : ((xs.drop o).take s).length = s := by simp; omega
            have ly : ((ys.drop o).take s).length = s := by simp; omega
            cases he : P.underlying f.type with
            | none => cases d with
              | zero => simp [fits2] at hk'
              | succ d => simp [fits2, he] at hk'
            | some ue =>
              have h1 : isAggD ue = false → s = 1 := by
                intro hb
                cases d with
                | zero => simp [fits2] at hk'
                | succ d =>
                  unfold fits2 at hk'
                  rw [he] at hk'
                  cases ue <;> simp only [isAggD, reduceCtorEq] at hb <;> simp only at hk' <;> exact leafL_len hk' lx
              have px := run_part (P := P) W (cs := xs) (o := o) he hs rfl lx h1
              have py := run_part (P := P) W (cs := ys) (o := o) he hs rfl ly h1
              have heq := run_equalIn_fits d W f.type ue _ _ he hk'
              simp only [Op.eqFields, hn, ne_eq, not_false_eq_true, if_true, Sem.run_bind, hoff, px, py, heq, Result.andThen_ok]
              have e1 := cellsEq_append _ _ (xs.drop (o + s)) (ys.drop (o + s)) (lx.trans ly.symm)
              rw [← drop_split xs o s, ← drop_split ys o s] at e1
              rw [e1]
              have ih' := ih (o + s) hrest
              cases hc : cellsEq ((xs.drop o).take s) ((ys.drop o).take s)
              · simp
              · simpa using ih'
      simpa using key fs.toList 0 hf
    | _ => exact leaf rfl h
end Go.Pod
