/- Plain words for walks: what each kind of operation yields. Nothing of the program in it. -/
import Derived.Test.YtgfnkigoaajllaaGreatL2
set_option linter.unusedVariables false
set_option linter.unusedSimpArgs false
namespace Go.Pod
open Go.RowKit

/-! ### What the program's table says of a type -/
def pAgg (P : Program) (T : TypeId) : Option Bool := (P.underlying T).map fun d => match d with | .struct _ | .array _ _ => true | _ => false
def pSz (P : Program) (T : TypeId) : Option Nat := (P.info? T).map (·.size)
def pZero (P : Program) (T : TypeId) : Option Value := (P.info? T).bind (·.zero)
def pBy (P : Program) (T : TypeId) : Option Nat := (P.info? T).map (·.bytes)
def pFld (P : Program) (T : TypeId) (i : Nat) : Option Nat := (P.underlying T).bind fun d => match d with
  | .struct fs => (fs[i]?).bind fun f => (pSz P f.type).bind fun s => if s = 0 then none else some f.offset
  | _ => none
def pFldT (P : Program) (T : TypeId) (i : Nat) : Option (TypeId × Nat) := (P.underlying T).bind fun d => match d with
  | .struct fs => (fs[i]?).map fun f => (f.type, f.offset)
  | _ => none
def pArr (P : Program) (T : TypeId) : Option (Nat × TypeId × Nat) := (P.underlying T).bind fun d => match d with
  | .array n e => (pSz P e).map fun s => (n, e, s)
  | _ => none
def pSlc (P : Program) (T : TypeId) : Option (TypeId × Nat) := (P.underlying T).bind fun d => match d with
  | .slice e => (pSz P e).map fun s => (e, s)
  | _ => none

section
variable {P : Program} {W : World}
theorem pSz_info {T : TypeId} {s : Nat} (h : pSz P T = some s) : ∃ i, P.info? T = some i ∧ i.size = s := by
  unfold pSz at h
  cases hi : P.info? T with
  | none => rw [hi] at h; cases h
  | some i => rw [hi] at h; exact ⟨i, rfl, by simpa using h⟩
theorem run_sizeOf' {T : TypeId} {s : Nat} (h : pSz P T = some s) (W : World) : (sizeOf T).run P W = .ok s W := by
  obtain ⟨i, hi, hs⟩ := pSz_info h
  simp [sizeOf, typeInfo, hi, hs]
theorem run_isAgg' {T : TypeId} {b : Bool} (h : pAgg P T = some b) (W : World) : (isAgg T).run P W = .ok b W := by
  unfold pAgg at h
  cases hd : P.underlying T with
  | none => rw [hd] at h; cases h
  | some d =>
    rw [hd] at h
    simp only [isAgg, Sem.run_bind, run_underlying hd, Result.andThen_ok]
    cases d <;> simp at h <;> subst h <;> simp
theorem run_zero' {T : TypeId} {z : Value} (h : pZero P T = some z) (W : World) : (zeroValue T).run P W = .ok z W := by
  unfold pZero at h
  cases hi : P.info? T with
  | none => rw [hi] at h; cases h
  | some i =>
    rw [hi] at h
    simp only [Option.bind_some] at h
    simp [zeroValue, typeInfo, hi, h]
theorem pSlc_und {T : TypeId} {e : TypeId} {s : Nat} (h : pSlc P T = some (e, s)) : P.underlying T = some (.slice e) ∧ pSz P e = some s := by
  unfold pSlc at h
  cases hd : P.underlying T with
  | none => rw [hd] at h; cases h
  | some d =>
    rw [hd] at h
    cases d <;> simp only [Option.bind_some, reduceCtorEq] at h
    case slice e' =>
      cases hs : pSz P e' with
      | none => rw [hs] at h; cases h
      | some s' =>
        rw [hs] at h
        simp only [Option.map_some, Option.some.injEq, Prod.mk.injEq] at h
        obtain ⟨rfl, rfl⟩ := h
        exact ⟨rfl, hs⟩
theorem pArr_und {T : TypeId} {n : Nat} {e : TypeId} {s : Nat} (h : pArr P T = some (n, e, s)) : P.underlying T = some (.array n e) ∧ pSz P e = some s := by
  unfold pArr at h
  cases hd : P.underlying T with
  | none => rw [hd] at h; cases h
  | some d =>
    rw [hd] at h
    cases d <;> simp only [Option.bind_some, reduceCtorEq] at h
    case array n' e' =>
      cases hs : pSz P e' with
      | none => rw [hs] at h; cases h
      | some s' =>
        rw [hs] at h
        simp only [Option.map_some, Option.some.injEq, Prod.mk.injEq] at h
        obtain ⟨rfl, rfl, rfl⟩ := h
        exact ⟨rfl, hs⟩
theorem pFld_und {T : TypeId} {i o : Nat} (h : pFld P T i = some o) : ∃ fs f, P.underlying T = some (.struct fs) ∧ fs[i]? = some f ∧ f.offset = o ∧ ∃ s, pSz P f.type = some s ∧ s ≠ 0 := by
  unfold pFld at h
  cases hd : P.underlying T with
  | none => rw [hd] at h; cases h
  | some d =>
    rw [hd] at h
    cases d <;> simp only [Option.bind_some, reduceCtorEq] at h
    case struct fs =>
      obtain ⟨f, hf, h⟩ := Option.bind_eq_some_iff.1 h
      obtain ⟨s, hs, h⟩ := Option.bind_eq_some_iff.1 h
      split at h
      · cases h
      · exact ⟨fs, f, rfl, hf, Option.some.inj h, s, hs, by assumption⟩
theorem pFldT_und {T : TypeId} {i o : Nat} {t : TypeId} (h : pFldT P T i = some (t, o)) : ∃ fs f, P.underlying T = some (.struct fs) ∧ fs[i]? = some f ∧ f.type = t ∧ f.offset = o := by
  unfold pFldT at h
  cases hd : P.underlying T with
  | none => rw [hd] at h; cases h
  | some d =>
    rw [hd] at h
    cases d <;> simp only [Option.bind_some, reduceCtorEq] at h
    case struct fs =>
      obtain ⟨f, hf, h⟩ := Option.map_eq_some_iff.1 h
      simp only [Prod.mk.injEq] at h
      exact ⟨fs, f, rfl, hf, h.1, h.2⟩

theorem run_loadVar_agg {T : TypeId} {a : Addr} {cs : List Value} (hT : pAgg P T = some true) (hs : pSz P T = some cs.length) (hc : CellsAt W a cs) : (loadVar T a).run P W = .ok (.agg cs.toArray) W := by
  simp only [loadVar, Sem.run_bind, run_isAgg' hT, Result.andThen_ok, if_true, run_sizeOf' hs, run_loadCells_list W a cs hc, Sem.run_pure]
theorem run_loadVar_one {T : TypeId} {a : Addr} {v : Value} (hT : pAgg P T = some false) (hc : CellsAt W a [v]) : (loadVar T a).run P W = .ok v W := by
  have h0 := hc 0 v rfl
  rw [add_zero'] at h0
  simp [loadVar, run_isAgg' hT, load, Sem.run, h0]

/-- A block's cells. -/
theorem row_cells {b o : Nat} {cs vs : List Value} {T : TypeId} {fr : Nat × Nat} (h : W.heap[b]? = some (.cells cs.toArray T fr)) (hv : (cs.drop o).take vs.length = vs) : CellsAt W ⟨b, o, none⟩ vs := by
  intro j u hj
  rw [add_plain, cell_of_row W b (o + j) cs.toArray T fr h]
  have hjl : j < vs.length := (List.getElem?_eq_some_iff.1 hj).1
  rw [← hv, List.getElem?_take, if_pos hjl, List.getElem?_drop] at hj
  simpa using hj
end

/-! ### Whole numbers' bits -/
def bAnd (k : IntKind) (x y : Int) : Int := k.wrap ((BitVec.ofInt k.bits x &&& BitVec.ofInt k.bits y).toNat : Int)
def bOr (k : IntKind) (x y : Int) : Int := k.wrap ((BitVec.ofInt k.bits x ||| BitVec.ofInt k.bits y).toNat : Int)
def bXor (k : IntKind) (x y : Int) : Int := k.wrap ((BitVec.ofInt k.bits x ^^^ BitVec.ofInt k.bits y).toNat : Int)
def bAndNot (k : IntKind) (x y : Int) : Int := k.wrap ((BitVec.ofInt k.bits x &&& ~~~ BitVec.ofInt k.bits y).toNat : Int)
def bNot (k : IntKind) (x : Int) : Int := bXor k (if k.signed then -1 else k.max) x
def bShl (k : IntKind) (x y : Int) : Int := k.wrap (x * 2 ^ (min y.toNat k.bits))
def bShr (k : IntKind) (x y : Int) : Int := x.fdiv (2 ^ (min y.toNat k.bits))

def byteAt (b : ByteArray) (i : Int) : Int := if h : i.toNat < b.size then (b[i.toNat].toNat : Int) else 0

section
variable {P : Program} {a : Act} {W : World} {n : Nat} {L : List (Nat × Value)}

theorem v_move (hF : FH n L a) {x : Operand} {v : Value} (hx : lkO L x = some v) : Val P a W (.move x) v := fun d ty pos af g => by simp [execOp, hF.ev hx]
theorem v_assign (hF : FH n L a) {x : Operand} {v : Value} (hx : lkO L x = some v) : Val P a W (.assign x) v := fun d ty pos af g => by simp [execOp, hF.ev hx]
theorem v_pick_t (hF : FH n L a) {c x y : Operand} {b : Bool} {v : Value} (hc : lkO L c = some (.bool b)) (hb : b = true) (hx : lkO L x = some v) : Val P a W (.pick c x y) v := fun d ty pos af g => by
  simp [execOp, hF.ev hc, hF.ev hx, asBool, hb]
theorem v_pick_f (hF : FH n L a) {c x y : Operand} {b : Bool} {v : Value} (hc : lkO L c = some (.bool b)) (hb : b = false) (hx : lkO L y = some v) : Val P a W (.pick c x y) v := fun d ty pos af g => by
  simp [execOp, hF.ev hc, hF.ev hx, asBool, hb]
theorem v_not (hF : FH n L a) {T : TypeId} {x : Operand} {b : Bool} (hx : lkO L x = some (.bool b)) : Val P a W (.unOp .not T x) (.bool (!b)) := fun d ty pos af g => by
  simp [execOp, hF.ev hx, Op.unary]
theorem v_neg (hF : FH n L a) {T : TypeId} {x : Operand} {k : IntKind} {i : Int} (hx : lkO L x = some (.int k i)) : Val P a W (.unOp .neg T x) (.int k (k.wrap (0 - i))) := fun d ty pos af g => by
  simp [execOp, hF.ev hx, Op.unary, Op.intArith]
theorem v_inv (hF : FH n L a) {T : TypeId} {x : Operand} {k : IntKind} {i : Int} (hx : lkO L x = some (.int k i)) : Val P a W (.unOp .xor T x) (.int k (bNot k i)) := fun d ty pos af g => by
  simp [execOp, hF.ev hx, Op.unary, Op.intBits, bNot, bXor]

theorem bin_int (hF : FH n L a) {op : BinOp} {T U : TypeId} {x y : Operand} {k : IntKind} {i j : Int} {v : Value} (hx : lkO L x = some (.int k i)) (hy : lkO L y = some (.int k j))
    (hr : ∀ W, (binOp op T (.int k i) (.int k j)).run P W = .ok v W) : Val P a W (.binOp op T x y U) v := fun d ty pos af g => by
  have hg : (eqGuard op T x y (.int k i) (.int k j)).run P W = .ok () W := by cases op <;> simp [eqGuard]
  simp [execOp, hF.ev hx, hF.ev hy, hg, hr]
theorem v_add (hF : FH n L a) {T U : TypeId} {x y : Operand} {k : IntKind} {i j : Int} (hx : lkO L x = some (.int k i)) (hy : lkO L y = some (.int k j)) : Val P a W (.binOp .add T x y U) (.int k (k.wrap (i + j))) :=
  bin_int hF hx hy fun W => by simp [binOp, Op.intArith]
theorem v_sub (hF : FH n L a) {T U : TypeId} {x y : Operand} {k : IntKind} {i j : Int} (hx : lkO L x = some (.int k i)) (hy : lkO L y = some (.int k j)) : Val P a W (.binOp .sub T x y U) (.int k (k.wrap (i - j))) :=
  bin_int hF hx hy fun W => by simp [binOp, Op.intArith]
theorem v_mul (hF : FH n L a) {T U : TypeId} {x y : Operand} {k : IntKind} {i j : Int} (hx : lkO L x = some (.int k i)) (hy : lkO L y = some (.int k j)) : Val P a W (.binOp .mul T x y U) (.int k (k.wrap (i * j))) :=
  bin_int hF hx hy fun W => by simp [binOp, Op.intArith]
theorem v_quo (hF : FH n L a) {T U : TypeId} {x y : Operand} {k : IntKind} {i j : Int} (hx : lkO L x = some (.int k i)) (hy : lkO L y = some (.int k j)) (h0 : j ≠ 0) : Val P a W (.binOp .quo T x y U) (.int k (k.wrap (i.tdiv j))) :=
  bin_int hF hx hy fun W => by simp [binOp, Op.intDiv, h0]
theorem v_rem (hF : FH n L a) {T U : TypeId} {x y : Operand} {k : IntKind} {i j : Int} (hx : lkO L x = some (.int k i)) (hy : lkO L y = some (.int k j)) (h0 : j ≠ 0) : Val P a W (.binOp .rem T x y U) (.int k (i.tmod j)) :=
  bin_int hF hx hy fun W => by simp [binOp, Op.intDiv, h0]
theorem v_and (hF : FH n L a) {T U : TypeId} {x y : Operand} {k : IntKind} {i j : Int} (hx : lkO L x = some (.int k i)) (hy : lkO L y = some (.int k j)) : Val P a W (.binOp .and T x y U) (.int k (bAnd k i j)) :=
  bin_int hF hx hy fun W => by simp [binOp, Op.intBits, bAnd]
theorem v_or (hF : FH n L a) {T U : TypeId} {x y : Operand} {k : IntKind} {i j : Int} (hx : lkO L x = some (.int k i)) (hy : lkO L y = some (.int k j)) : Val P a W (.binOp .or T x y U) (.int k (bOr k i j)) :=
  bin_int hF hx hy fun W => by simp [binOp, Op.intBits, bOr]
theorem v_xor (hF : FH n L a) {T U : TypeId} {x y : Operand} {k : IntKind} {i j : Int} (hx : lkO L x = some (.int k i)) (hy : lkO L y = some (.int k j)) : Val P a W (.binOp .xor T x y U) (.int k (bXor k i j)) :=
  bin_int hF hx hy fun W => by simp [binOp, Op.intBits, bXor]
theorem v_andNot (hF : FH n L a) {T U : TypeId} {x y : Operand} {k : IntKind} {i j : Int} (hx : lkO L x = some (.int k i)) (hy : lkO L y = some (.int k j)) : Val P a W (.binOp .andNot T x y U) (.int k (bAndNot k i j)) :=
  bin_int hF hx hy fun W => by simp [binOp, Op.intBits, bAndNot]
theorem v_eql (hF : FH n L a) {T U : TypeId} {x y : Operand} {k : IntKind} {i j : Int} (hx : lkO L x = some (.int k i)) (hy : lkO L y = some (.int k j)) : Val P a W (.binOp .eql T x y U) (.bool (i == j)) :=
  bin_int hF hx hy fun W => by simp [binOp, Op.intCmp]
theorem v_neq (hF : FH n L a) {T U : TypeId} {x y : Operand} {k : IntKind} {i j : Int} (hx : lkO L x = some (.int k i)) (hy : lkO L y = some (.int k j)) : Val P a W (.binOp .neq T x y U) (.bool (i != j)) :=
  bin_int hF hx hy fun W => by simp [binOp, Op.intCmp]
theorem v_lss (hF : FH n L a) {T U : TypeId} {x y : Operand} {k : IntKind} {i j : Int} (hx : lkO L x = some (.int k i)) (hy : lkO L y = some (.int k j)) : Val P a W (.binOp .lss T x y U) (.bool (decide (i < j))) :=
  bin_int hF hx hy fun W => by simp [binOp, Op.intCmp]
theorem v_leq (hF : FH n L a) {T U : TypeId} {x y : Operand} {k : IntKind} {i j : Int} (hx : lkO L x = some (.int k i)) (hy : lkO L y = some (.int k j)) : Val P a W (.binOp .leq T x y U) (.bool (decide (i ≤ j))) :=
  bin_int hF hx hy fun W => by simp [binOp, Op.intCmp]
theorem v_gtr (hF : FH n L a) {T U : TypeId} {x y : Operand} {k : IntKind} {i j : Int} (hx : lkO L x = some (.int k i)) (hy : lkO L y = some (.int k j)) : Val P a W (.binOp .gtr T x y U) (.bool (decide (j < i))) :=
  bin_int hF hx hy fun W => by simp [binOp, Op.intCmp]
theorem v_geq (hF : FH n L a) {T U : TypeId} {x y : Operand} {k : IntKind} {i j : Int} (hx : lkO L x = some (.int k i)) (hy : lkO L y = some (.int k j)) : Val P a W (.binOp .geq T x y U) (.bool (decide (j ≤ i))) :=
  bin_int hF hx hy fun W => by simp [binOp, Op.intCmp]
theorem v_shl (hF : FH n L a) {T U : TypeId} {x y : Operand} {k k' : IntKind} {i j : Int} (hx : lkO L x = some (.int k i)) (hy : lkO L y = some (.int k' j)) (h0 : 0 ≤ j) : Val P a W (.binOp .shl T x y U) (.int k (bShl k i j)) := fun d ty pos af g => by
  simp [execOp, hF.ev hx, hF.ev hy, eqGuard, binOp, Op.shift, Int.not_lt.2 h0, bShl]
theorem v_shr (hF : FH n L a) {T U : TypeId} {x y : Operand} {k k' : IntKind} {i j : Int} (hx : lkO L x = some (.int k i)) (hy : lkO L y = some (.int k' j)) (h0 : 0 ≤ j) : Val P a W (.binOp .shr T x y U) (.int k (bShr k i j)) := fun d ty pos af g => by
  simp [execOp, hF.ev hx, hF.ev hy, eqGuard, binOp, Op.shift, Int.not_lt.2 h0, bShr]

theorem v_convI (hF : FH n L a) {S T : TypeId} {x : Operand} {k k' : IntKind} {i : Int} {d0 : TypeDesc} (hx : lkO L x = some (.int k i)) (hS : P.underlying S = some d0) (hT : P.underlying T = some (.int k')) : Val P a W (.convert S T x) (.int k' (k'.wrap i)) := fun d ty pos af g => by
  cases d0 <;> simp [execOp, hF.ev hx, convert, run_underlying hS, run_underlying hT, Conv.intToInt]

theorem v_fieldAddr (hF : FH n L a) {T : TypeId} {x : Operand} {p : Addr} {i o : Nat} (hx : lkO L x = some (.pointer (some p))) (hT : pFld P T i = some o) : Val P a W (.fieldAddr T x i) (.pointer (some (p.add o))) := fun d ty pos af g => by
  obtain ⟨fs, f, hu, hf, ho, s, hs, hne⟩ := pFld_und hT
  simp [execOp, hF.ev hx, Instr.fieldAt, run_underlying hu, hf, Instr.sureAddr, fieldPlace, run_sizeOf' hs, hne, ho]
theorem v_indexAddr (hF : FH n L a) {T e : TypeId} {x y : Operand} {p : Addr} {k : IntKind} {i : Int} {m s : Nat} (hx : lkO L x = some (.pointer (some p))) (hy : lkO L y = some (.int k i)) (hT : pArr P T = some (m, e, s))
    (h0 : 0 ≤ i) (h1 : i < m) : Val P a W (.indexAddr T x y) (.pointer (some (p.add (i.toNat * s)))) := fun d ty pos af g => by
  obtain ⟨hu, hs⟩ := pArr_und hT
  simp [execOp, hF.ev hx, hF.ev hy, Instr.indexAt, asIntOf, run_underlying hu, Instr.sureAddr, h0, h1, run_sizeOf' hs]
theorem v_indexSl (hF : FH n L a) {T e : TypeId} {x y : Operand} {p : Addr} {k : IntKind} {i : Int} {m c s : Nat} (hx : lkO L x = some (.slice (some p) m c)) (hy : lkO L y = some (.int k i)) (hT : pSlc P T = some (e, s))
    (h0 : 0 ≤ i) (h1 : i < m) : Val P a W (.indexAddr T x y) (.pointer (some (p.add (i.toNat * s)))) := fun d ty pos af g => by
  obtain ⟨hu, hs⟩ := pSlc_und hT
  simp [execOp, hF.ev hx, hF.ev hy, Instr.indexAt, asIntOf, run_underlying hu, h0, h1, run_sizeOf' hs]
theorem v_load (hF : FH n L a) {T : TypeId} {x : Operand} {p : Addr} {cs : List Value} (hx : lkO L x = some (.pointer (some p))) (hT : pAgg P T = some true) (hs : pSz P T = some cs.length) (hc : CellsAt W p cs) :
    Val P a W (.load T x) (.agg cs.toArray) := fun d ty pos af g => by
  simp [execOp, hF.ev hx, Instr.loadAt, Instr.sureAddr, run_loadVar_agg hT hs hc]
theorem v_load1 (hF : FH n L a) {T : TypeId} {x : Operand} {p : Addr} {v : Value} (hx : lkO L x = some (.pointer (some p))) (hT : pAgg P T = some false) (hc : CellsAt W p [v]) :
    Val P a W (.load T x) v := fun d ty pos af g => by
  simp [execOp, hF.ev hx, Instr.loadAt, Instr.sureAddr, run_loadVar_one hT hc]
theorem v_field (hF : FH n L a) {T t : TypeId} {x : Operand} {cs vs : List Value} {i o : Nat} (hx : lkO L x = some (.agg cs.toArray)) (hT : pFldT P T i = some (t, o)) (ht : pAgg P t = some true) (hs : pSz P t = some vs.length) (hv : (cs.drop o).take vs.length = vs) :
    Val P a W (.field T x i) (.agg vs.toArray) := fun d ty pos af g => by
  obtain ⟨fs, f, hu, hf, hft, ho⟩ := pFldT_und hT
  simp [execOp, hF.ev hx, Instr.field, run_underlying hu, hf, asAgg, part, hft, run_isAgg' ht, run_sizeOf' hs, ho, List.extract_eq_take_drop, hv]
theorem v_field1 (hF : FH n L a) {T t : TypeId} {x : Operand} {cs : List Value} {v : Value} {i o : Nat} (hx : lkO L x = some (.agg cs.toArray)) (hT : pFldT P T i = some (t, o)) (ht : pAgg P t = some false) (hv : cs[o]? = some v) :
    Val P a W (.field T x i) v := fun d ty pos af g => by
  obtain ⟨fs, f, hu, hf, hft, ho⟩ := pFldT_und hT
  simp [execOp, hF.ev hx, Instr.field, run_underlying hu, hf, asAgg, part, hft, run_isAgg' ht, ho, hv]
theorem v_index (hF : FH n L a) {T e : TypeId} {x y : Operand} {cs vs : List Value} {k : IntKind} {i : Int} {m s : Nat} (hx : lkO L x = some (.agg cs.toArray)) (hy : lkO L y = some (.int k i)) (hT : pArr P T = some (m, e, s)) (he : pAgg P e = some true)
    (h0 : 0 ≤ i) (h1 : i < m) (hv : (cs.drop (i.toNat * s)).take s = vs) : Val P a W (.index T x y) (.agg vs.toArray) := fun d ty pos af g => by
  obtain ⟨hu, hs⟩ := pArr_und hT
  simp [execOp, hF.ev hx, hF.ev hy, Instr.index, asIntOf, run_underlying hu, h0, h1, run_sizeOf' hs, part, run_isAgg' he, List.extract_eq_take_drop, hv]
theorem v_index1 (hF : FH n L a) {T e : TypeId} {x y : Operand} {cs : List Value} {v : Value} {k : IntKind} {i : Int} {m s : Nat} (hx : lkO L x = some (.agg cs.toArray)) (hy : lkO L y = some (.int k i)) (hT : pArr P T = some (m, e, s)) (he : pAgg P e = some false)
    (h0 : 0 ≤ i) (h1 : i < m) (hv : cs[i.toNat * s]? = some v) : Val P a W (.index T x y) v := fun d ty pos af g => by
  obtain ⟨hu, hs⟩ := pArr_und hT
  simp [execOp, hF.ev hx, hF.ev hy, Instr.index, asIntOf, run_underlying hu, h0, h1, run_sizeOf' hs, part, run_isAgg' he, hv]
theorem v_indexStr (hF : FH n L a) {T : TypeId} {x y : Operand} {b : ByteArray} {k : IntKind} {i : Int} (hx : lkO L x = some (.string b)) (hy : lkO L y = some (.int k i)) (hT : P.underlying T = some .string)
    (h0 : 0 ≤ i) (h1 : i < b.size) : Val P a W (.index T x y) (.int .u8 (byteAt b i)) := fun d ty pos af g => by
  have hlt : i.toNat < b.size := by omega
  have e : b[i.toNat]? = some b[i.toNat] := getElem?_pos b i.toNat hlt
  simp [execOp, hF.ev hx, hF.ev hy, Instr.index, asIntOf, run_underlying hT, h0, e, byteAt, hlt]
theorem v_extract (hF : FH n L a) {x : Operand} {vs : Array Value} {i : Nat} {v : Value} (hx : lkO L x = some (.tuple vs)) (hv : vs[i]? = some v) : Val P a W (.extract x i) v := fun d ty pos af g => by
  simp [execOp, hF.ev hx, Instr.extract, hv]
theorem v_nilCheck (hF : FH n L a) {x : Operand} {p : Addr} (hx : lkO L x = some (.pointer (some p))) : Val P a W (.nilCheck x) (.pointer (some p)) := fun d ty pos af g => by
  simp [execOp, hF.ev hx]
theorem v_len (hF : FH n L a) {T e : TypeId} {x : Operand} {A : Option Addr} {m c : Nat} (hx : lkO L x = some (.slice A m c)) (hT : P.underlying T = some (.slice e)) :
    Val P a W (.call { callee := .builtin .len, args := #[x], argTypes := #[T] }) (.int .i64 m) := fun d ty pos af g => by
  simp [execOp, resolve, invoke, builtin, hF.ev hx, Builtin.len_, run_underlying hT, goInt]
theorem v_lenS (hF : FH n L a) {T : TypeId} {x : Operand} {b : ByteArray} (hx : lkO L x = some (.string b)) (hT : P.underlying T = some .string) :
    Val P a W (.call { callee := .builtin .len, args := #[x], argTypes := #[T] }) (.int .i64 b.size) := fun d ty pos af g => by
  simp [execOp, resolve, invoke, builtin, hF.ev hx, Builtin.len_, run_underlying hT, goInt]
theorem v_cap (hF : FH n L a) {T e : TypeId} {x : Operand} {A : Option Addr} {m c : Nat} (hx : lkO L x = some (.slice A m c)) (hT : P.underlying T = some (.slice e)) :
    Val P a W (.call { callee := .builtin .cap, args := #[x], argTypes := #[T] }) (.int .i64 c) := fun d ty pos af g => by
  simp [execOp, resolve, invoke, builtin, hF.ev hx, Builtin.cap_, run_underlying hT, goInt]
end
end Go.Pod
