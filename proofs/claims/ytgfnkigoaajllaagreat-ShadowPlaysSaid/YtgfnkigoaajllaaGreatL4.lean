/- Plain words for walks: operations that make or write memory, calls, the ways out. Nothing of the program in it. -/
import Derived.Test.YtgfnkigoaajllaaGreatL3
set_option linter.unusedVariables false
set_option linter.unusedSimpArgs false
namespace Go.Pod
open Go.RowKit

def Sub : List Fact → List Fact → Prop
  | [], _ => True
  | f :: l, fs => (∃ i : Nat, fs[i]? = some f) ∧ Sub l fs
theorem Sub.mem {l fs : List Fact} (h : Sub l fs) : ∀ f ∈ l, f ∈ fs := by
  induction l with
  | nil => intro f hf; cases hf
  | cons g l ih =>
    intro f hf
    rcases List.mem_cons.1 hf with rfl | hf
    · obtain ⟨i, hi⟩ := h.1; exact List.mem_of_getElem? hi
    · exact ih h.2 f hf

section
variable {M0 : Nat → Prop} {w0 : World} {bs : List Box} {rs : List Row} {fs : List Fact} {W W' : World}
theorem St.enter {fs' : List Fact} (h : St M0 w0 bs rs fs W) (hs : Sub fs' fs) : St (Mut M0 bs rs) W [] [] fs' W :=
  St.refl h.mut_lt fun f hf => h.fact f (hs.mem f hf)
theorem St.keep {bs' : List Box} {rs' : List Row} {fs' : List Fact} (h : St M0 w0 bs rs fs W) (hb : List.Sublist bs' bs) (hr : List.Sublist rs' rs) (hf : Sub fs' fs) : St M0 w0 bs' rs' fs' W := h.less hb hr hf.mem
theorem St.size (h : St M0 w0 bs rs fs W) : w0.heap.size ≤ W.heap.size := h.below.size
end

def pCall (P : Program) (f : FuncId) : Bool := match P.funcs[f]? with | some fn => !(fn.name == "runtime.NumGoroutine") && !fn.body.isNone | none => false
def lkA (L : List (Nat × Value)) : List Operand → Option (List Value)
  | [] => some []
  | x :: xs => match lkO L x, lkA L xs with | some v, some vs => some (v :: vs) | _, _ => none

section
variable {P : Program} {ops : Array Oper} {Q : Exit → Act → World → Prop} {a : Act} {W : World} {rest : List Oper} {n : Nat} {L : List (Nat × Value)}
  {d : Nat} {op : Op} {ty : TypeId} {pos : String} {af : Array Edge} {g : Option (Nat × Bool)} {v : Value}
  {M0 : Nat → Prop} {w0 : World} {bs : List Box} {rs : List Row} {fs : List Fact}

theorem lkA_map (hF : FH n L a) : ∀ (xs : List Operand) (vs : List Value), lkA L xs = some vs → xs.map a.eval = vs
  | [], vs, h => by simp [lkA] at h; subst h; rfl
  | x :: xs, vs, h => by
    simp only [lkA] at h
    cases hx : lkO L x with
    | none => rw [hx] at h; cases h
    | some v =>
      cases hr : lkA L xs with
      | none => rw [hx, hr] at h; cases h
      | some vs' =>
        rw [hx, hr] at h
        simp only [Option.some.injEq] at h
        subst h
        simp [hF.ev hx, lkA_map hF xs vs' hr]

theorem sq_box {x : Operand} {T : TypeId} {cs : List Value} (hF : FH n L a) (hS : St M0 w0 bs rs fs W) (hx : lkO L x = some v) (hc : v.cells = cs.toArray) (hd : d < n)
    (K : ∀ b a W, FH n ((d, .pointer (some ⟨b, 0, none⟩)) :: L) a → St M0 w0 (⟨b, cs, T⟩ :: bs) rs fs W → wpList P ops Q rest a W) :
    wpList P ops Q (⟨some d, .box T x, ty, pos, af, none⟩ :: rest) a W := by
  refine wpList_plain rfl fun K' hK => ?_
  have hr : (execOp a.eval ⟨some d, .box T x, ty, pos, af, none⟩).run P W = .ok (.value (.pointer (some ⟨W.heap.size, 0, none⟩))) (W.alloc (.cells cs.toArray T)) := by
    simp [execOp, hF.ev hx, Instr.box, newVar, newRow, hc]
  unfold Oper.wp
  rw [hr, Oper.upon_value]
  exact hK _ _ (K _ _ _ (hF.put hd _) (hS.addBox cs T))
theorem sq_alloc {T : TypeId} {z : Value} {cs : List Value} (hF : FH n L a) (hS : St M0 w0 bs rs fs W) (hz : pZero P T = some z) (hc : z.cells = cs.toArray) (hd : d < n)
    (K : ∀ b a W, FH n ((d, .pointer (some ⟨b, 0, none⟩)) :: L) a → St M0 w0 (⟨b, cs, T⟩ :: bs) rs fs W → wpList P ops Q rest a W) :
    wpList P ops Q (⟨some d, .alloc T, ty, pos, af, none⟩ :: rest) a W := by
  refine wpList_plain rfl fun K' hK => ?_
  have hr : (execOp a.eval ⟨some d, .alloc T, ty, pos, af, none⟩).run P W = .ok (.value (.pointer (some ⟨W.heap.size, 0, none⟩))) (W.alloc (.cells cs.toArray T)) := by
    simp [execOp, Instr.alloc, run_zero' hz, newVar, newRow, hc]
  unfold Oper.wp
  rw [hr, Oper.upon_value]
  exact hK _ _ (K _ _ _ (hF.put hd _) (hS.addBox cs T))

theorem run_storeVar_at {b o : Nat} {T T' : TypeId} {cs vs : List Value} (hb : W.heap[b]? = some (.cells cs.toArray T' (0, 0))) (hv : v.cells = vs.toArray) (hs : pSz P T = some vs.length)
    (h1 : ∀ u ∈ vs, u.oneCell' = true) (hl : o + vs.length ≤ cs.length) :
    (storeVar T ⟨b, o, none⟩ v).run P W = .ok () (W.setRow b (cs.take o ++ vs ++ cs.drop (o + vs.length)).toArray) := by
  have hst := run_storeCells_at P b o T' vs 0 cs.toArray W hb (by simpa using hl) h1
  simp only [Nat.add_zero] at hst
  simp only [storeVar, Sem.run_bind, run_sizeOf' hs, Result.andThen_ok, hv, List.size_toArray, ne_eq, not_true_eq_false, if_false]
  simpa using hst
theorem sq_store {x y : Operand} {T T' : TypeId} {i b o : Nat} {cs vs cs' : List Value} {p : Addr} (hF : FH n L a) (hS : St M0 w0 bs rs fs W) (hx : lkO L x = some (.pointer (some p))) (hp : p = ⟨b, o, none⟩) (hi : bs[i]? = some ⟨b, cs, T'⟩)
    (hy : lkO L y = some v) (hv : v.cells = vs.toArray) (hs : pSz P T = some vs.length) (h1 : ∀ u ∈ vs, u.oneCell' = true) (hl : o + vs.length ≤ cs.length) (hc : cs.take o ++ vs ++ cs.drop (o + vs.length) = cs')
    (K : ∀ W, St M0 w0 (bs.set i ⟨b, cs', T'⟩) rs fs W → wpList P ops Q rest a W) : wpList P ops Q (⟨none, .store T x y, ty, pos, af, none⟩ :: rest) a W := by
  have hb := (hS.bx hi).2
  subst hp
  have hr : (execOp a.eval ⟨none, .store T x y, ty, pos, af, none⟩).run P W = .ok .skip (W.setRow b (cs.take o ++ vs ++ cs.drop (o + vs.length)).toArray) := by
    simp only [execOp, hF.ev hx, hF.ev hy, Instr.storeAt, Instr.sureAddr, Sem.run_bind, Sem.run_pure, Result.andThen_ok, run_storeVar_at hb hv hs h1 hl]
  refine sq_skip hr (K _ ?_)
  rw [hc]
  refine hS.write_box hi cs' ⟨rfl, rfl, rfl, by simp, fun k _ hk => setRow_other W b k _ (fun e => hk (by rw [e]))⟩ (Nat.le_refl _) ?_
  exact setRow_heap W b cs.toArray _ T' (0, 0) hb

/-- A call of a named function, by its contract. -/
theorem run_callf {f : FuncId} {xs : List Operand} {vs : List Value} {tys : Array TypeId} {dst : Option Nat} (hF : FH n L a) (hp : pCall P f = true) (hx : lkA L xs = some vs) :
    (execOp a.eval ⟨dst, .call { callee := .value (.func f), args := xs.toArray, argTypes := tys }, ty, pos, af, g⟩).run P W = .ok (.enter f vs.toArray) W := by
  unfold pCall at hp
  have hm := lkA_map hF xs vs hx
  cases hfn : P.funcs[f]? with
  | none => rw [hfn] at hp; cases hp
  | some fn =>
    rw [hfn] at hp
    simp only [Bool.and_eq_true, Bool.not_eq_true'] at hp
    simp only [execOp, resolve, Act.eval, Deferred.ofValue, invoke, callFunc, Sem.run_bind, Sem.run_pure, Result.andThen_ok, run_program, hfn, hp.1, hp.2, Bool.false_eq_true, if_false]
    simp [hm]
theorem sq_call {f : FuncId} {xs : List Operand} {vs : List Value} {tys : Array TypeId} {R : Value → World → Prop} (hF : FH n L a) (hp : pCall P f = true) (hx : lkA L xs = some vs) (hd : d < n)
    (hc : Calls P f vs.toArray W fun e W' => ∃ v, e = .returned v ∧ R v W') (K : ∀ v W, R v W → ∀ a, FH n ((d, v) :: L) a → wpList P ops Q rest a W) :
    wpList P ops Q (⟨some d, .call { callee := .value (.func f), args := xs.toArray, argTypes := tys }, ty, pos, af, none⟩ :: rest) a W := by
  refine wpList_plain rfl fun K' hK => ?_
  unfold Oper.wp
  rw [run_callf hF hp hx, Oper.upon_enter]
  refine hc.mono fun e W' he => ?_
  obtain ⟨v, rfl, hR⟩ := he
  exact hK _ _ (K v W' hR _ (hF.put hd v))
/-- A call of a function value. -/
theorem run_callv {f : FuncId} {x : Operand} {caps : List Value} {xs : List Operand} {vs : List Value} {tys : Array TypeId} {dst : Option Nat} (hF : FH n L a) (hp : pCall P f = true) (hfv : lkO L x = some (.func (.func f) #[] caps.toArray)) (hx : lkA L xs = some vs) :
    (execOp a.eval ⟨dst, .call { callee := .value x, args := xs.toArray, argTypes := tys }, ty, pos, af, g⟩).run P W = .ok (.enter f (vs ++ caps).toArray) W := by
  unfold pCall at hp
  have hm := lkA_map hF xs vs hx
  cases hfn : P.funcs[f]? with
  | none => rw [hfn] at hp; cases hp
  | some fn =>
    rw [hfn] at hp
    simp only [Bool.and_eq_true, Bool.not_eq_true'] at hp
    simp only [execOp, resolve, hF.ev hfv, Deferred.ofValue, invoke, callFunc, Sem.run_bind, Sem.run_pure, Result.andThen_ok, run_program, hfn, hp.1, hp.2, Bool.false_eq_true, if_false]
    simp [hm]
theorem sq_callv {f : FuncId} {x : Operand} {caps : List Value} {xs : List Operand} {vs : List Value} {tys : Array TypeId} {R : Value → World → Prop} (hF : FH n L a) (hp : pCall P f = true) (hfv : lkO L x = some (.func (.func f) #[] caps.toArray)) (hx : lkA L xs = some vs) (hd : d < n)
    (hc : Calls P f (vs ++ caps).toArray W fun e W' => ∃ v, e = .returned v ∧ R v W') (K : ∀ v W, R v W → ∀ a, FH n ((d, v) :: L) a → wpList P ops Q rest a W) :
    wpList P ops Q (⟨some d, .call { callee := .value x, args := xs.toArray, argTypes := tys }, ty, pos, af, none⟩ :: rest) a W := by
  refine wpList_plain rfl fun K' hK => ?_
  unfold Oper.wp
  rw [run_callv hF hp hfv hx, Oper.upon_enter]
  refine hc.mono fun e W' he => ?_
  obtain ⟨v, rfl, hR⟩ := he
  exact hK _ _ (K v W' hR _ (hF.put hd v))

/-! ### The quiet walk of a region that draws its order: every operation yields one value in every world grown out of W -/
def Gr (W : World) : World → Prop := fun W' => Bl W.heap.size W W'
theorem wp_qt {id : Nat} {l : List Oper} (hm : P.follows .mixedOrders = true) (hB : Region.lexB .any l.toArray = true)
    (h : wpQuiet P l.toArray (Gr W) (fun a' => ∀ W', Gr W W' → Q .normal a' W') l a) : (Code.region id l.toArray true).wp P Q a W :=
  wp_region_quiet (C := Gr W) hm hB ((Bl.refl _ _).drew) (by simpa using h)
variable {C : World → Prop} {QA : Act → Prop}
theorem qt_val (hv : ∀ W, C W → Val P a W op v) (hF : FH n L a) (hd : d < n) (K : ∀ a, FH n ((d, v) :: L) a → wpQuiet P ops C QA rest a) :
    wpQuiet P ops C QA (⟨some d, op, ty, pos, af, none⟩ :: rest) a := by
  refine wpQuiet_step fun K' hK => ?_
  rw [if_pos (by simp [Region.wanted])]
  refine ⟨v, fun w hw => ?_, hK _ (K _ (hF.put hd v))⟩
  unfold Oper.quietAt
  rw [hv w hw]
  exact ⟨rfl, rfl⟩
theorem qt_call {f : FuncId} {xs : List Operand} {vs : List Value} {tys : Array TypeId} (hF : FH n L a) (hp : pCall P f = true) (hx : lkA L xs = some vs) (hd : d < n)
    (hc : ∀ W, C W → Calls P f vs.toArray W fun e W' => e = .returned v ∧ C W') (K : ∀ a, FH n ((d, v) :: L) a → wpQuiet P ops C QA rest a) :
    wpQuiet P ops C QA (⟨some d, .call { callee := .value (.func f), args := xs.toArray, argTypes := tys }, ty, pos, af, none⟩ :: rest) a := by
  refine wpQuiet_step fun K' hK => ?_
  rw [if_pos (by simp [Region.wanted])]
  refine ⟨v, fun w hw => ?_, hK _ (K _ (hF.put hd v))⟩
  unfold Oper.quietAt
  rw [run_callf hF hp hx]
  exact ⟨rfl, hc w hw⟩
theorem qt_callv {f : FuncId} {x : Operand} {caps : List Value} {xs : List Operand} {vs : List Value} {tys : Array TypeId} (hF : FH n L a) (hp : pCall P f = true) (hfv : lkO L x = some (.func (.func f) #[] caps.toArray)) (hx : lkA L xs = some vs) (hd : d < n)
    (hc : ∀ W, C W → Calls P f (vs ++ caps).toArray W fun e W' => e = .returned v ∧ C W') (K : ∀ a, FH n ((d, v) :: L) a → wpQuiet P ops C QA rest a) :
    wpQuiet P ops C QA (⟨some d, .call { callee := .value x, args := xs.toArray, argTypes := tys }, ty, pos, af, none⟩ :: rest) a := by
  refine wpQuiet_step fun K' hK => ?_
  rw [if_pos (by simp [Region.wanted])]
  refine ⟨v, fun w hw => ?_, hK _ (K _ (hF.put hd v))⟩
  unfold Oper.quietAt
  rw [run_callv hF hp hfv hx]
  exact ⟨rfl, hc w hw⟩
theorem qt_yes {j : Nat} {want : Bool} {t : Nat} {b : Bool} (hF : FH n L a) (ht : ((ops[j]?).bind (·.dst)) = some t) (hb : lk t L = some (.bool b)) (he : b = want)
    (K : wpQuiet P ops C QA (⟨some d, op, ty, pos, af, none⟩ :: rest) a) : wpQuiet P ops C QA (⟨some d, op, ty, pos, af, some (j, want)⟩ :: rest) a := by
  have hw : Region.wanted (⟨some d, op, ty, pos, af, some (j, want)⟩ : Oper) (yielded ops a.tmps) = true := by
    rw [wanted_at hF rfl ht hb, he]; simp
  unfold wpQuiet at K ⊢
  rw [if_pos hw]
  rw [if_pos (by simp [Region.wanted])] at K
  exact K
theorem qt_no {j : Nat} {want : Bool} {t : Nat} {b : Bool} (hF : FH n L a) (ht : ((ops[j]?).bind (·.dst)) = some t) (hb : lk t L = some (.bool b)) (he : b = !want)
    (hd : d < n) (K : ∀ a, FH n ((d, undef) :: L) a → wpQuiet P ops C QA rest a) : wpQuiet P ops C QA (⟨some d, op, ty, pos, af, some (j, want)⟩ :: rest) a := by
  have hw : ¬ Region.wanted (⟨some d, op, ty, pos, af, some (j, want)⟩ : Oper) (yielded ops a.tmps) = true := by
    rw [wanted_at hF rfl ht hb, he]; cases want <;> simp
  unfold wpQuiet
  rw [if_neg hw]
  exact K _ (hF.put hd undef)
theorem qt_no2 {j : Nat} {want : Bool} {t : Nat} (hF : FH n L a) (ht : ((ops[j]?).bind (·.dst)) = some t) (hb : lk t L = some undef)
    (hd : d < n) (K : ∀ a, FH n ((d, undef) :: L) a → wpQuiet P ops C QA rest a) : wpQuiet P ops C QA (⟨some d, op, ty, pos, af, some (j, want)⟩ :: rest) a := by
  have hw : ¬ Region.wanted (⟨some d, op, ty, pos, af, some (j, want)⟩ : Oper) (yielded ops a.tmps) = true := by
    have := hF.get t _ hb
    simp [Region.wanted, yielded, ht, this, undef]
  unfold wpQuiet
  rw [if_neg hw]
  exact K _ (hF.put hd undef)
theorem qt_nil (h : QA a) : wpQuiet P ops C QA [] a := h
theorem wpQuiet_mono {QA' : Act → Prop} (hq : ∀ a, QA a → QA' a) : ∀ (l : List Oper) (a : Act), wpQuiet P ops C QA l a → wpQuiet P ops C QA' l a
  | [], a, h => hq _ h
  | o :: l, a, h => by
    unfold wpQuiet at h ⊢
    split
    · rename_i hw; rw [if_pos hw] at h; exact Oper.quiet_mono (fun a h => wpQuiet_mono hq l a h) h
    · rename_i hw; rw [if_neg hw] at h; exact wpQuiet_mono hq l _ h
theorem wpQuiet_append : ∀ (l r : List Oper) (a : Act), wpQuiet P ops C (wpQuiet P ops C QA r) l a → wpQuiet P ops C QA (l ++ r) a
  | [], r, a, h => h
  | o :: l, r, a, h => by
    unfold wpQuiet at h
    rw [List.cons_append]
    unfold wpQuiet
    split
    · rename_i hw; rw [if_pos hw] at h; exact Oper.quiet_mono (fun a h => wpQuiet_append l r a h) h
    · rename_i hw; rw [if_neg hw] at h; exact wpQuiet_append l r _ h
theorem qt_cut (n : Nat) {l : List Oper} (J : Act → Prop) (hr : ∀ a, J a → wpQuiet P ops C QA (l.drop n) a) (hl : wpQuiet P ops C J (l.take n) a) : wpQuiet P ops C QA l a := by
  have := wpQuiet_append (l.take n) (l.drop n) a (wpQuiet_mono hr _ _ hl)
  rwa [List.take_append_drop] at this

/-! ### The ways out -/
variable {J K : Act → World → Prop} {id id' : Nat}
theorem then_x (h : Q (.exit id) a W) : Exit.then J Q (.exit id) a W := h
theorem then_r (h : Q .ret a W) : Exit.then J Q .ret a W := h
theorem then_j (h : J a W) : Exit.then J Q .normal a W := h
theorem blk_hit (h : Q .normal a W) : Exit.inBlock id Q (.exit id) a W := by simpa [Exit.inBlock] using h
theorem blk_miss (hne : id' ≠ id) (h : Q (.exit id') a W) : Exit.inBlock id Q (.exit id') a W := by simpa [Exit.inBlock, hne] using h
theorem blk_r (h : Q .ret a W) : Exit.inBlock id Q .ret a W := h
theorem blk_n (h : Q .normal a W) : Exit.inBlock id Q .normal a W := h

def RV (P : Program) (a : Act) (W : World) (v : Value) : ResultVar → Prop
  | .tmp t => a.tmps.getD t undef = v
  | .cell x t => ∃ p, a.tmps.getD x undef = .pointer (some p) ∧ (loadVar t p).run P W = .ok v W
theorem rv_tmp (hF : FH n L a) {t : Nat} (h : lk t L = some v) : RV P a W v (.tmp t) := hF.ev (x := .tmp t) h
theorem rv_cell (hF : FH n L a) {t : Nat} {T : TypeId} {p : Addr} {cs : List Value} (h : lk t L = some (.pointer (some p))) (hT : pAgg P T = some true) (hs : pSz P T = some cs.length) (hc : CellsAt W p cs) : RV P a W (.agg cs.toArray) (.cell t T) :=
  ⟨p, hF.ev (x := .tmp t) h, run_loadVar_agg hT hs hc⟩
theorem rv_cell1 (hF : FH n L a) {t : Nat} {T : TypeId} {p : Addr} (h : lk t L = some (.pointer (some p))) (hT : pAgg P T = some false) (hc : CellsAt W p [v]) : RV P a W v (.cell t T) :=
  ⟨p, hF.ev (x := .tmp t) h, run_loadVar_one hT hc⟩
variable {fn : Func} {R : Ending → World → Prop}
theorem ret0 (hF : FH n L a) (hr : fn.results = #[]) (hR : R (.returned (.tuple #[])) W) : bodyPost P fn R .ret a W :=
  ⟨hF.defers, _, results_none hr _ _ _, hR⟩
theorem end0 (hF : FH n L a) (hr : fn.results = #[]) (hR : R (.returned (.tuple #[])) W) : bodyPost P fn R .normal a W :=
  ⟨hF.defers, _, results_none hr _ _ _, hR⟩
theorem ret1 {r : ResultVar} (hF : FH n L a) (hr : fn.results = #[r]) (h : RV P a W v r) (hR : R (.returned v) W) : bodyPost P fn R .ret a W := by
  refine ⟨hF.defers, v, ?_, hR⟩
  cases r with
  | tmp t => simp only [RV] at h; simp [results, hr, ← h]
  | cell x t => obtain ⟨p, hp, hl⟩ := h; simp only [Array.getD_eq_getD_getElem?] at hp; simp [results, hr, hp, asAddr, hl]
theorem ret2 {r1 r2 : ResultVar} {v1 v2 : Value} (hF : FH n L a) (hr : fn.results = #[r1, r2]) (h1 : RV P a W v1 r1) (h2 : RV P a W v2 r2) (hR : R (.returned (.tuple #[v1, v2])) W) : bodyPost P fn R .ret a W := by
  refine ⟨hF.defers, _, ?_, hR⟩
  cases r1 with
  | tmp t =>
    simp only [RV] at h1; subst h1
    cases r2 with
    | tmp u => simp only [RV] at h2; subst h2; simp [results, hr]
    | cell x u => obtain ⟨p, hp, hl⟩ := h2; simp only [Array.getD_eq_getD_getElem?] at hp; simp [results, hr, hp, asAddr, hl]
  | cell y t =>
    obtain ⟨q, hq, hm⟩ := h1; simp only [Array.getD_eq_getD_getElem?] at hq
    cases r2 with
    | tmp u => simp only [RV] at h2; subst h2; simp [results, hr, hq, asAddr, hm]
    | cell x u => obtain ⟨p, hp, hl⟩ := h2; simp only [Array.getD_eq_getD_getElem?] at hp; simp [results, hr, hp, hq, asAddr, hl, hm]
theorem RV.cases {r : ResultVar} (h : RV P a W v r) : (∃ t, r = .tmp t ∧ a.tmps[t]?.getD undef = v) ∨ (∃ x t p, r = .cell x t ∧ a.tmps[x]?.getD undef = .pointer (some p) ∧ (loadVar t p).run P W = .ok v W) := by
  cases r with
  | tmp t => exact .inl ⟨t, rfl, by simpa [RV, Array.getD_eq_getD_getElem?] using h⟩
  | cell x t =>
    obtain ⟨p, hp, hl⟩ := h
    exact .inr ⟨x, t, p, rfl, by simpa [Array.getD_eq_getD_getElem?] using hp, hl⟩
theorem ret3 {r1 r2 r3 : ResultVar} {v1 v2 v3 : Value} (hF : FH n L a) (hr : fn.results = #[r1, r2, r3]) (h1 : RV P a W v1 r1) (h2 : RV P a W v2 r2) (h3 : RV P a W v3 r3) (hR : R (.returned (.tuple #[v1, v2, v3])) W) : bodyPost P fn R .ret a W := by
  refine ⟨hF.defers, _, ?_, hR⟩
  rcases h1.cases with ⟨t1, rfl, e1⟩ | ⟨x1, t1, p1, rfl, e1, l1⟩ <;> rcases h2.cases with ⟨t2, rfl, e2⟩ | ⟨x2, t2, p2, rfl, e2, l2⟩ <;> rcases h3.cases with ⟨t3, rfl, e3⟩ | ⟨x3, t3, p3, rfl, e3, l3⟩ <;> simp_all [results, asAddr]
end
end Go.Pod
