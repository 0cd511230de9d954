/- Plain words for walks: slices that are made and cut, strings, comparisons of structs. Nothing of the program in it. -/
import Derived.Test.YtgfnkigoaajllaaGreatL7
set_option linter.unusedVariables false
set_option linter.unusedSimpArgs false
namespace Go.Pod
open Go.RowKit

section
variable {P : Program} {a : Act} {W : World} {n : Nat} {L : List (Nat × Value)}
theorem bin_agg (hF : FH n L a) {T U : TypeId} {x y : Operand} {u : TypeDesc} {xs ys : List Value} {b : Bool} (hx : lkO L x = some (.agg xs.toArray)) (hy : lkO L y = some (.agg ys.toArray))
    (hu : P.underlying T = some u) (hag : isAggD u = true) (hg : P.eqGuardType P.depth T = false) (hf : fits2 P 10000 T xs ys = true) (hb : cellsEq xs ys = b) :
    Val P a W (.binOp .eql T x y U) (.bool b) ∧ Val P a W (.binOp .neq T x y U) (.bool (!b)) := by
  have h := run_equalIn_fits (P := P) 10000 W T u xs ys hu hf
  rw [hag] at h
  simp only [aggV, if_true] at h
  rw [hb] at h
  constructor
  · intro d ty pos af g
    simp only [execOp, hF.ev hx, hF.ev hy, Sem.run_bind, run_eqGuard_agg _ _ _ _ _ _ _ hg, Result.andThen_ok, run_eql_struct, h]
    simp
  · intro d ty pos af g
    simp only [execOp, hF.ev hx, hF.ev hy, Sem.run_bind, run_eqGuard_agg _ _ _ _ _ _ _ hg, Result.andThen_ok, run_neq_struct, h]
    simp
theorem v_eqlB (hF : FH n L a) {T U : TypeId} {x y : Operand} {p q : Bool} (hx : lkO L x = some (.bool p)) (hy : lkO L y = some (.bool q)) (hT : P.underlying T = some .bool) : Val P a W (.binOp .eql T x y U) (.bool (p == q)) := fun d ty pos af g => by
  simp [execOp, hF.ev hx, hF.ev hy, eqGuard, binOp, Op.equal, Op.maxDepth, run_equalIn_bool' W _ T p q hT]
theorem v_neqB (hF : FH n L a) {T U : TypeId} {x y : Operand} {p q : Bool} (hx : lkO L x = some (.bool p)) (hy : lkO L y = some (.bool q)) (hT : P.underlying T = some .bool) : Val P a W (.binOp .neq T x y U) (.bool (!(p == q))) := fun d ty pos af g => by
  simp [execOp, hF.ev hx, hF.ev hy, eqGuard, binOp, Op.equal, Op.maxDepth, run_equalIn_bool' W _ T p q hT]
theorem v_eqlS (hF : FH n L a) {T U : TypeId} {x y : Operand} {p q : ByteArray} (hx : lkO L x = some (.string p)) (hy : lkO L y = some (.string q)) : Val P a W (.binOp .eql T x y U) (.bool (p.toList == q.toList)) := fun d ty pos af g => by
  simp [execOp, hF.ev hx, hF.ev hy, eqGuard, binOp, Op.stringOp]
theorem v_neqS (hF : FH n L a) {T U : TypeId} {x y : Operand} {p q : ByteArray} (hx : lkO L x = some (.string p)) (hy : lkO L y = some (.string q)) : Val P a W (.binOp .neq T x y U) (.bool (!(p.toList == q.toList))) := fun d ty pos af g => by
  simp [execOp, hF.ev hx, hF.ev hy, eqGuard, binOp, Op.stringOp]

/-! ### A struct or an array that is typed out -/
/-- The cells of a value that is put together: each part at its place. -/
def filled (place : Nat → Option (Nat × Nat)) (cells : List Value) : List (Nat × List Value) → Option (List Value)
  | [] => some cells
  | (i, vs) :: rest => match place i with
    | none => none
    | some (off, size) => if vs.length = size ∧ off + size ≤ cells.length then filled place (cells.take off ++ vs ++ cells.drop (off + size)) rest else none
theorem foldl_place (vs : List Value) : ∀ (cs : Array Value) (off j : Nat), off + j + vs.length ≤ cs.size →
    (vs.zipIdx j).foldl (fun cs (c : Value × Nat) => cs.setIfInBounds (off + c.2) c.1) cs = (cs.toList.take (off + j) ++ vs ++ cs.toList.drop (off + j + vs.length)).toArray := by
  induction vs with
  | nil => intro cs off j h; simp
  | cons v vs ih =>
    intro cs off j h
    simp only [List.zipIdx_cons, List.foldl_cons]
    rw [ih _ off (j + 1) (by simp at h ⊢; omega)]
    have e := list_seg_step cs.toList (off + j) v vs (by simp at h ⊢; omega)
    congr 1
    simpa [Array.toList_setIfInBounds, Nat.add_assoc] using e
theorem run_fill (place : Nat → Option (Nat × Nat)) : ∀ (parts : List (Nat × Value)) (ps : List (Nat × List Value)) (cells : List Value) (out : List Value),
    parts.map (fun p => (p.1, p.2.cells.toList)) = ps → filled place cells ps = some out → Instr.fill place cells.toArray parts = some out.toArray
  | [], ps, cells, out, hm, h => by
    simp at hm; subst hm
    simp [filled] at h; subst h
    rfl
  | (i, v) :: parts, ps, cells, out, hm, h => by
    simp only [List.map_cons] at hm
    subst hm
    simp only [filled] at h
    simp only [Instr.fill]
    cases hp : place i with
    | none => rw [hp] at h; cases h
    | some p =>
      obtain ⟨off, size⟩ := p
      rw [hp] at h
      simp only at h ⊢
      split at h
      · rename_i hc
        obtain ⟨h1, h2⟩ := hc
        simp only [Array.length_toList] at h1
        rw [if_neg (by simp [h1]; omega)]
        have e := foldl_place v.cells.toList cells.toArray off 0 (by simp [h1]; omega)
        simp only [Nat.add_zero] at e
        have e2 : v.cells.zipIdx.foldl (fun cs (x : Value × Nat) => cs.setIfInBounds (off + x.2) x.1) cells.toArray = (cells.take off ++ v.cells.toList ++ cells.drop (off + v.cells.toList.length)).toArray := by
          rw [← Array.foldl_toList]
          simpa using e
        have e3 : (v.cells.zipIdx.foldl (fun cs x => match x with | (c, j) => cs.setIfInBounds (off + j) c) cells.toArray) = (cells.take off ++ v.cells.toList ++ cells.drop (off + size)).toArray := by
          rw [← h1, show v.cells.size = v.cells.toList.length from by simp, ← e2]
        rw [e3]
        exact run_fill place parts _ _ out rfl h
      · cases h
def placesF (P : Program) : List Field → List (Nat × Nat)
  | [] => []
  | f :: fs => (f.offset, (pSz P f.type).getD 0) :: placesF P fs
def pPlaces (P : Program) (T : TypeId) : Option (List (Nat × Nat)) := match P.underlying T with | some (.struct fs) => if fs.toList.all (fun f => (pSz P f.type).isSome) then some (placesF P fs.toList) else none | _ => none
def lkP (L : List (Nat × Value)) : List (Nat × Operand) → Option (List (Nat × Value))
  | [] => some []
  | (i, x) :: xs => match lkO L x, lkP L xs with | some v, some vs => some ((i, v) :: vs) | _, _ => none
theorem lkP_map (hF : FH n L a) : ∀ (xs : List (Nat × Operand)) (vs : List (Nat × Value)), lkP L xs = some vs → xs.map (fun p => (p.1, a.eval p.2)) = vs
  | [], vs, h => by simp [lkP] at h; subst h; rfl
  | (i, x) :: xs, vs, h => by
    simp only [lkP] at h
    cases hx : lkO L x with
    | none => rw [hx] at h; cases h
    | some v =>
      cases hr : lkP L xs with
      | none => rw [hx, hr] at h; cases h
      | some vs' =>
        rw [hx, hr] at h
        simp only [Option.some.injEq] at h
        subst h
        simp [hF.ev hx, lkP_map hF xs vs' hr]
theorem run_places (W : World) : ∀ (fs : List Field), fs.all (fun f => (pSz P f.type).isSome) = true → (fs.mapM (m := Sem) fun f => do pure (f.offset, ← sizeOf f.type)).run P W = .ok (placesF P fs) W
  | [], _ => by simp [placesF]
  | f :: fs, h => by
    simp only [List.all_cons, Bool.and_eq_true] at h
    obtain ⟨s, hs⟩ := Option.isSome_iff_exists.1 h.1
    have ih := run_places W fs h.2
    simp only [List.mapM_cons, Sem.run_bind, run_sizeOf' hs, Result.andThen_ok, Sem.run_pure, ih]
    simp [placesF, hs]
/-- A struct. -/
theorem v_build (hF : FH n L a) {T : TypeId} {parts : List (Nat × Operand)} {vs : List (Nat × Value)} {ps : List (Nat × List Value)} {pl : List (Nat × Nat)} {z : Value} {zc out : List Value}
    (hx : lkP L parts = some vs) (hps : vs.map (fun p => (p.1, p.2.cells.toList)) = ps) (hz : pZero P T = some z) (hzc : z.cells = zc.toArray) (hpl : pPlaces P T = some pl) (ho : filled (fun i => pl[i]?) zc ps = some out) :
    Val P a W (.build T parts.toArray) (.agg out.toArray) := fun d ty pos af g => by
  unfold pPlaces at hpl
  cases hu : P.underlying T with
  | none => rw [hu] at hpl; cases hpl
  | some u =>
    rw [hu] at hpl
    cases u <;> simp only [reduceCtorEq] at hpl
    case struct fs =>
      split at hpl
      case isFalse => cases hpl
      rename_i hall
      cases hpl
      have hm := lkP_map hF parts vs hx
      have hpr : (fs.mapM (m := Sem) fun f => do pure (f.offset, ← sizeOf f.type)).run P W = .ok (placesF P fs.toList).toArray W := by
        have := run_places (P := P) W fs.toList hall
        rw [← Array.toList_mapM] at this
        generalize hq : (Array.mapM (m := Sem) (fun f => do pure (f.offset, ← sizeOf f.type)) fs) = q at *
        rw [Sem.run_map] at this
        cases hqr : q.run P W with
        | ok x w =>
          rw [hqr] at this
          simp only [Result.andThen_ok, Result.ok.injEq] at this
          obtain ⟨h1, h2⟩ := this
          subst h2
          rw [← h1]
        | halt x w => rw [hqr] at this; simp [Result.andThen] at this
      have hfill := run_fill (fun i => (placesF P fs.toList)[i]?) vs ps zc out hps ho
      simp only [execOp, Instr.build, Sem.run_bind, run_zero' hz, Result.andThen_ok, run_underlying hu, hpr, hzc]
      have hargs : (parts.toArray.map fun x => match x with | (i, x) => (i, a.eval x)).toList = vs := by simpa using hm
      rw [hargs]
      have hp2 : (fun (x : Nat) => (placesF P fs.toList).toArray[x]?) = fun (i : Nat) => (placesF P fs.toList)[i]? := by funext i; simp
      rw [hp2, hfill]
      simp

/-- An array. -/
theorem v_buildA (hF : FH n L a) {T e : TypeId} {m s : Nat} {parts : List (Nat × Operand)} {vs : List (Nat × Value)} {ps : List (Nat × List Value)} {z : Value} {zc out : List Value}
    (hx : lkP L parts = some vs) (hps : vs.map (fun p => (p.1, p.2.cells.toList)) = ps) (hz : pZero P T = some z) (hzc : z.cells = zc.toArray) (hT : pArr P T = some (m, e, s)) (ho : filled (fun i => some (i * s, s)) zc ps = some out) :
    Val P a W (.build T parts.toArray) (.agg out.toArray) := fun d ty pos af g => by
  obtain ⟨hu, hs⟩ := pArr_und hT
  have hm := lkP_map hF parts vs hx
  have hfill := run_fill (fun i => some (i * s, s)) vs ps zc out hps ho
  simp only [execOp, Instr.build, Sem.run_bind, run_zero' hz, Result.andThen_ok, run_underlying hu, run_sizeOf' hs, hzc]
  have hargs : (parts.toArray.map fun x => match x with | (i, x) => (i, a.eval x)).toList = vs := by simpa using hm
  rw [hargs, hfill]
  simp
end

/-! ### A slice that is typed out -/
def idxL {α : Type} : Nat → List α → List (Nat × α)
  | _, [] => []
  | i, x :: xs => (i, x) :: idxL (i + 1) xs
theorem idxL_map {α β : Type} (f : α → β) : ∀ (xs : List α) (i : Nat), (idxL i xs).map (fun p => (p.1, f p.2)) = idxL i (xs.map f)
  | [], _ => rfl
  | x :: xs, i => by simp [idxL, idxL_map f xs]
theorem filled_row (s : Nat) : ∀ (css : List (List Value)) (k : Nat) (cells : List Value), (∀ c ∈ css, c.length = s) → (k + css.length) * s ≤ cells.length →
    filled (fun i => some (i * s, s)) cells (idxL k css) = some (cells.take (k * s) ++ css.flatten ++ cells.drop ((k + css.length) * s))
  | [], k, cells, _, _ => by simp [idxL, filled]
  | c :: css, k, cells, hall, hl => by
    have hc : c.length = s := hall c (by simp)
    simp only [List.length_cons] at hl
    have hk : k * s + s ≤ (k + (css.length + 1)) * s := by
      have h2 : (k + 1) * s ≤ (k + (css.length + 1)) * s := Nat.mul_le_mul_right _ (by omega)
      rwa [Nat.add_mul, Nat.one_mul] at h2
    simp only [idxL, filled]
    rw [if_pos ⟨hc, by omega⟩]
    have hlen : (cells.take (k * s) ++ c ++ cells.drop (k * s + s)).length = cells.length := by simp [hc]; omega
    rw [filled_row s css (k + 1) _ (fun x hx => hall x (by simp [hx])) (by rw [hlen, show k + 1 + css.length = k + (css.length + 1) from by omega]; exact hl)]
    have e1 : (cells.take (k * s) ++ c ++ cells.drop (k * s + s)).take ((k + 1) * s) = cells.take (k * s) ++ c := by
      rw [List.take_append_of_le_length (by simp [hc, Nat.add_mul]; omega)]
      exact List.take_of_length_le (by simp [hc, Nat.add_mul]; omega)
    have e2 : (cells.take (k * s) ++ c ++ cells.drop (k * s + s)).drop ((k + 1 + css.length) * s) = cells.drop ((k + (css.length + 1)) * s) := by
      have hge : k * s + s ≤ (k + 1 + css.length) * s := by rw [show k + 1 + css.length = k + (css.length + 1) from by omega]; exact hk
      rw [List.drop_append, List.drop_of_length_le (by simp [hc]; omega), List.nil_append, List.drop_drop]
      congr 1
      simp [hc]
      rw [show k + (css.length + 1) = k + 1 + css.length from by omega]
      omega
    rw [e1, e2]
    simp

section
variable {P : Program} {ops : Array Oper} {Q : Exit → Act → World → Prop} {a : Act} {W : World} {rest : List Oper} {n : Nat} {L : List (Nat × Value)}
  {d : Nat} {op : Op} {ty : TypeId} {pos : String} {af : Array Edge} {g : Option (Nat × Bool)} {v : Value}
  {M0 : Nat → Prop} {w0 : World} {bs : List Box} {rs : List Row} {fs : List Fact} {α : Type} {κ : Kd α}

theorem St.addRow (hS : St M0 w0 bs rs fs W) {E : TypeId} {css : List (List Value)} {xs : List α} (he : Els κ (Mut M0 bs rs) W css xs) (hlen : xs.length ≤ maxLen) :
    St M0 w0 bs (⟨κ, E, some ⟨W.heap.size, 0, none⟩, xs.length, xs⟩ :: rs) fs (W.alloc (.cells css.flatten.toArray E)) := by
  have hB : Bl W.heap.size W (W.alloc (.cells css.flatten.toArray E)) := (Bl.refl _ _).alloc (Nat.le_refl _) _
  have hfl := he.flen
  have s : Stp (Mut M0 bs rs) W (Mut (Mut M0 bs rs) [] [⟨κ, E, some ⟨W.heap.size, 0, none⟩, xs.length, xs⟩]) (W.alloc (.cells css.flatten.toArray E)) := by
    refine ⟨hB.size, fun k hk _ => hB.block k hk, fun k hk hm => ?_⟩
    rintro (h1 | ⟨_, h2, _⟩ | ⟨r, hr, e⟩)
    · exact hm h1
    · cases h2
    · rcases List.mem_singleton.1 hr with rfl
      simp [Row.blk] at e
      omega
  have k : St (Mut M0 bs rs) W [] [⟨κ, E, some ⟨W.heap.size, 0, none⟩, xs.length, xs⟩] [] (W.alloc (.cells css.flatten.toArray E)) := by
    refine ⟨hS.mut_lt, hB, by simp, fun r hr => ?_, by simp, by simp, by simp, by simp⟩
    rcases List.mem_singleton.1 hr with rfl
    refine ⟨css, he.st s, hfl, .inr ⟨W.heap.size, _, (0, 0), rfl, Nat.le_refl _, heap_alloc_new W _, Nat.le_refl _, hlen, ?_, .inl rfl, ?_⟩⟩
    · simp [hfl]
    · show css.flatten.toArray.toList.take (xs.length * κ.sz) = css.flatten
      rw [← hfl]
      exact List.take_length
  simpa using hS.join k

theorem sq_buildSlice {T E : TypeId} {m : Nat} {xs : List Operand} {vs : List Value} {css : List (List Value)} {parts : Array (Nat × Operand)} {ys : List α} {z : Value} (hF : FH n L a) (hS : St M0 w0 bs rs fs W)
    (hp : parts = (idxL 0 xs).toArray) (hx : lkA L xs = some vs) (hc : vs.map (·.cells.toList) = css) (he : Els κ (Mut M0 bs rs) W css ys) (hm : ys.length = m) (hT : pSlc P T = some (E, κ.sz)) (hz : pZero P E = some z) (hzs : z.cells.size = κ.sz)
    (hsz : m * κ.sz ≤ 2 ^ 24) (hpos : 0 < κ.sz) (hd : d < n)
    (K : ∀ A c a W, FH n ((d, .slice A ys.length c) :: L) a → St M0 w0 bs (⟨κ, E, A, c, ys⟩ :: rs) fs W → wpList P ops Q rest a W) :
    wpList P ops Q (⟨some d, .buildSlice T m parts, ty, pos, af, none⟩ :: rest) a W := by
  obtain ⟨hu, hs⟩ := pSlc_und hT
  subst hm
  have hcl : css.length = ys.length := he.1
  have hargs : (parts.map fun x => match x with | (i, x) => (i, a.eval x)).toList = idxL 0 vs := by
    have h1 := idxL_map a.eval xs 0
    rw [lkA_map hF xs vs hx] at h1
    rw [hp]
    simpa using h1
  have hps : (idxL 0 vs).map (fun p => (p.1, p.2.cells.toList)) = idxL 0 css := by rw [idxL_map (fun v : Value => v.cells.toList), hc]
  have hfill : ∀ cells : List Value, cells.length = ys.length * κ.sz → Instr.fill (fun i => some (i * κ.sz, κ.sz)) cells.toArray (idxL 0 vs) = some css.flatten.toArray := by
    intro cells hl
    refine run_fill _ _ _ _ _ hps ?_
    rw [filled_row κ.sz css 0 cells he.lens (by rw [hcl, Nat.zero_add, hl]; exact Nat.le_refl _)]
    rw [Nat.zero_add, hcl, ← hl]
    simp
  have hlen : ys.length ≤ maxLen := by
    unfold maxLen
    have := Nat.le_mul_of_pos_right ys.length hpos
    omega
  have hf : ∀ zero : Array Value, Instr.fill (fun i => some (i * κ.sz, κ.sz)) ((Array.range (ys.length * κ.sz)).map fun x => zero[x % zero.size]!) (idxL 0 vs) = some css.flatten.toArray := by
    intro zero
    have h1 := hfill ((Array.range (ys.length * κ.sz)).map fun x => zero[x % zero.size]!).toList (by simp)
    rwa [Array.toArray_toList] at h1
  have hrun : (execOp a.eval ⟨some d, .buildSlice T ys.length parts, ty, pos, af, none⟩).run P W = .ok (.value (.slice (some ⟨W.heap.size, 0, none⟩) ys.length ys.length)) (W.alloc (.cells css.flatten.toArray E)) := by
    simp only [execOp, Instr.buildSlice, Sem.run_bind, run_underlying hu, Result.andThen_ok, run_sizeOf' hs, if_neg (Nat.not_lt.2 hsz), hargs]
    split
    · simp only [Sem.run_bind, Sem.run_pure, Result.andThen_ok, hf]
      simp [newRow]
    · simp only [Sem.run_bind, Sem.run_pure, Result.andThen_ok, run_zero' hz, hf]
      simp [newRow]
  exact sq_run hrun hF hd fun a hF => K _ _ a _ hF (hS.addRow he hlen)
end
end Go.Pod
