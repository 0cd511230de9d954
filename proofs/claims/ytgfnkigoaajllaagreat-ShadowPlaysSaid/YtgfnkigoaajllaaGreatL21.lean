/- Plain words for walks: the same laws under short names, and several steps as one. Nothing of the program in it. -/
import Derived.Test.YtgfnkigoaajllaaGreatL14
import Derived.KernelRfl
set_option linter.unusedVariables false
set_option linter.unusedSimpArgs false
namespace Go.Pod
open Go.RowKit
section
variable {P : Program} {ops : Array Oper} {Q : Exit → Act → World → Prop} {a : Act} {W : World} {rest : List Oper} {n : Nat} {L : List (Nat × Value)}
  {d : Nat} {op : Op} {ty : TypeId} {pos : String} {af : Array Edge} {g : Option (Nat × Bool)} {v : Value}
  {M0 : Nat → Prop} {w0 : World} {bs : List Box} {rs : List Row} {fs : List Fact}
theorem ltB {d n : Nat} (h : Nat.blt d n = true) : d < n := Nat.le_of_ble_eq_true h
theorem sv (hv : Val P a W op v) (hF : FH n L a) (hd : Nat.blt d n = true) (K : ∀ a, FH n ((d, v) :: L) a → wpList P ops Q rest a W) : wpList P ops Q (⟨some d, op, ty, pos, af, none⟩ :: rest) a W := sq_val hv hF (ltB hd) K
theorem mv (hF : FH n L a) {x : Operand} (hx : lkO L x = some v) (hd : Nat.blt d n = true) (K : ∀ a, FH n ((d, v) :: L) a → wpList P ops Q rest a W) : wpList P ops Q (⟨some d, .move x, ty, pos, af, none⟩ :: rest) a W := sq_val (v_move hF hx) hF (ltB hd) K
theorem av (hF : FH n L a) {x : Operand} (hx : lkO L x = some v) (hd : Nat.blt d n = true) (K : ∀ a, FH n ((d, v) :: L) a → wpList P ops Q rest a W) : wpList P ops Q (⟨some d, .assign x, ty, pos, af, none⟩ :: rest) a W := sq_val (v_assign hF hx) hF (ltB hd) K
theorem fv (hF : FH n L a) {T : TypeId} {x : Operand} {p : Addr} {i o : Nat} (hx : lkO L x = some (.pointer (some p))) (hT : pFld P T i = some o) (hd : Nat.blt d n = true) (K : ∀ a, FH n ((d, .pointer (some (p.add o))) :: L) a → wpList P ops Q rest a W) :
    wpList P ops Q (⟨some d, .fieldAddr T x i, ty, pos, af, none⟩ :: rest) a W := sq_val (v_fieldAddr hF hx hT) hF (ltB hd) K
theorem part1 {p q : Addr} {cs : List Value} {o : Nat} (h : CellsAt W q cs) (hp : p = q.add o) (hv : cs[o]? = some v) : CellsAt W p [v] := cells_sub h hp (by
  have hl := (List.getElem?_eq_some_iff.1 hv).1
  rw [List.drop_eq_getElem_cons hl]
  rw [List.getElem?_eq_getElem hl] at hv
  simp only [List.length_singleton, List.take_succ_cons, List.take_zero, Option.some.inj hv])
theorem lv (hF : FH n L a) {T : TypeId} {x : Operand} {p q : Addr} {cs : List Value} {o : Nat} (hx : lkO L x = some (.pointer (some p))) (hT : pAgg P T = some false) (h : CellsAt W q cs) (hp : p = q.add o) (hv : cs[o]? = some v) (hd : Nat.blt d n = true)
    (K : ∀ a, FH n ((d, v) :: L) a → wpList P ops Q rest a W) : wpList P ops Q (⟨some d, .load T x, ty, pos, af, none⟩ :: rest) a W := sq_val (v_load1 hF hx hT (part1 h hp hv)) hF (ltB hd) K
theorem wi {c : Operand} {x y : Code} {b : Bool} {α : Type} {X Y r : α} (hF : FH n L a) (hc : lkO L c = some (.bool b)) (h : (if b = true then X else Y) = r) (ht : X = r → x.wp P Q a W) (hf : Y = r → y.wp P Q a W) :
    (Code.cond c x y).wp P Q a W := wp_if hF hc (fun e => ht (ifT e h)) (fun e => hf (ifF e h))
theorem cst {f : FuncId} {fn : Func} {c : Code} {n : Nat} {args : List Value} {R : Ending → World → Prop}
    (hf : P.funcs[f]? = some fn) (hb : fn.body = some c) (hn : fn.ntmps = n) (hl : Nat.ble args.length n = true) (K : ∀ a, FH n (argL 0 args) a → c.wp P (bodyPost P fn R) a W) : Calls P f args.toArray W R :=
  calls_start hf hb hn (Nat.le_of_ble_eq_true hl) K
/-- A call that hands back what is known ahead. -/
theorem cl {M1 : Nat → Prop} {f : FuncId} {xs : List Operand} {vs : List Value} {tys : Array TypeId} (hF : FH n L a) (hp : pCall P f = true) (hx : lkA L xs = some vs) (hd : Nat.blt d n = true)
    (hc : Calls P f vs.toArray W fun e W' => ∃ u, e = .returned u ∧ (u = v ∧ St M1 W [] [] [] W')) (hS : St M0 w0 bs rs fs W) (K : ∀ W a, FH n ((d, v) :: L) a → St M0 w0 bs rs fs W → wpList P ops Q rest a W) :
    wpList P ops Q (⟨some d, .call { callee := .value (.func f), args := xs.toArray, argTypes := tys }, ty, pos, af, none⟩ :: rest) a W :=
  sq_call hF hp hx (ltB hd) hc fun u W' hR a' hF' => K W' a' (hR.1 ▸ hF') (hS.grow hR.2.below)
theorem bv {x : Operand} {T : TypeId} {cs : List Value} (hF : FH n L a) (hS : St M0 w0 bs rs fs W) (hx : lkO L x = some v) (hc : v.cells = cs.toArray) (hd : Nat.blt d n = true)
    (K : ∀ b a W, FH n ((d, .pointer (some ⟨b, 0, none⟩)) :: L) a → St M0 w0 (⟨b, cs, T⟩ :: bs) rs fs W → wpList P ops Q rest a W) : wpList P ops Q (⟨some d, .box T x, ty, pos, af, none⟩ :: rest) a W := sq_box hF hS hx hc (ltB hd) K
theorem al {T : TypeId} {z : Value} {cs : List Value} (hF : FH n L a) (hS : St M0 w0 bs rs fs W) (hz : pZero P T = some z) (hc : z.cells = cs.toArray) (hd : Nat.blt d n = true)
    (K : ∀ b a W, FH n ((d, .pointer (some ⟨b, 0, none⟩)) :: L) a → St M0 w0 (⟨b, cs, T⟩ :: bs) rs fs W → wpList P ops Q rest a W) : wpList P ops Q (⟨some d, .alloc T, ty, pos, af, none⟩ :: rest) a W := sq_alloc hF hS hz hc (ltB hd) K
theorem si {α : Type _} {x y : α} (h : some x = some y) : x = y := Option.some.inj h
theorem bl {x y : Nat} (h : Nat.ble x y = true) : x ≤ y := Nat.le_of_ble_eq_true h
theorem sl {α : Type _} {l : List α} : List.Sublist l l := List.Sublist.refl l
theorem sn {α : Type _} {l : List α} : List.Sublist [] l := List.nil_sublist l
theorem tn {y : Code} (h : y.wp P Q a W) : Exit.then (y.wp P Q) Q .normal a W := h
theorem tx {J : Act → World → Prop} {id : Nat} (h : Q (.exit id) a W) : Exit.then J Q (.exit id) a W := h
theorem tr {J : Act → World → Prop} (h : Q .ret a W) : Exit.then J Q .ret a W := h
theorem wq {x y : Code} (h : x.wp P (Exit.then (y.wp P Q) Q) a W) : (Code.seq x y).wp P Q a W := wp_seq h
theorem wg {id : Nat} {l : List Oper} (h : wpList P l.toArray Q l a W) : (Code.region id l.toArray false).wp P Q a W := wp_reg h
theorem nl (h : Q .normal a W) : wpList P ops Q [] a W := h
theorem sk (h : Q .normal a W) : Code.skip.wp P Q a W := wp_skip h
theorem rt (h : Q .ret a W) : Code.ret.wp P Q a W := wp_ret h
theorem wb {id : Nat} {x : Code} (h : x.wp P (Exit.inBlock id Q) a W) : (Code.block id x).wp P Q a W := wp_block h
theorem bn {id : Nat} (h : Q .normal a W) : Exit.inBlock id Q .normal a W := h
theorem bh {id : Nat} (h : Q .normal a W) : Exit.inBlock id Q (.exit id) a W := blk_hit h
theorem br {id : Nat} (h : Q .ret a W) : Exit.inBlock id Q .ret a W := h
section
variable {C : World → Prop} {QA : Act → Prop}
theorem qv (hv : ∀ W, C W → Val P a W op v) (hF : FH n L a) (hd : Nat.blt d n = true) (K : ∀ a, FH n ((d, v) :: L) a → wpQuiet P ops C QA rest a) : wpQuiet P ops C QA (⟨some d, op, ty, pos, af, none⟩ :: rest) a := qt_val hv hF (ltB hd) K
theorem qn (h : QA a) : wpQuiet P ops C QA [] a := h
end
section
variable {l : List Oper} {S : World → Prop} {E : Nat → Bool} {fuel : Nat} {listed : Array Bool} {o : Oper}
theorem e_val' (i : Nat) (hi : l[i]? = some ⟨some d, op, ty, pos, af, none⟩) (hc : canTake l listed i = true) (hv : ∀ W, Val P a W op v) (hF : FH n L a) (hd : Nat.blt d n = true)
    (K : ∀ a, FH n ((d, v) :: L) a → wpAnyE P .any l.toArray Q S E fuel (listed.setIfInBounds i true) a W) (hQ : ∀ c a w, Q (.panic c) (a.put (some d) v) w → Q (.panic c) a w := by exact fun _ _ _ h => h) : wpAnyE P .any l.toArray Q S E (fuel + 1) listed a W :=
  e_val i hi hc rfl hQ hv hF (ltB hd) K
theorem e_valS' (i : Nat) (hi : l[i]? = some ⟨some d, op, ty, pos, af, none⟩) (hc : canTake l listed i = true) (hv : ∀ W, S W → Val P a W op v) (hS : S W) (hE : waitE E l.toArray listed i = true) (hF : FH n L a) (hd : Nat.blt d n = true)
    (K : ∀ a, FH n ((d, v) :: L) a → wpAnyE P .any l.toArray Q S E fuel (listed.setIfInBounds i true) a W) (hQ : ∀ c a w, Q (.panic c) (a.put (some d) v) w → Q (.panic c) a w := by exact fun _ _ _ h => h) : wpAnyE P .any l.toArray Q S E (fuel + 1) listed a W :=
  e_valS i hi hc rfl hQ hv hS hE hF (ltB hd) K
theorem e_valG' (i : Nat) {j : Nat} {want : Bool} {t : Nat} {b : Bool} (hi : l[i]? = some ⟨some d, op, ty, pos, af, some (j, want)⟩) (hc : canTake l listed i = true) (ht : ((l[j]?).bind (·.dst)) = some t) (hb : lk t L = some (.bool b)) (he : b = want) (hv : ∀ W, Val P a W op v) (hF : FH n L a) (hd : Nat.blt d n = true)
    (K : ∀ a, FH n ((d, v) :: L) a → wpAnyE P .any l.toArray Q S E fuel (listed.setIfInBounds i true) a W) (hQ : ∀ c a w, Q (.panic c) (a.put (some d) v) w → Q (.panic c) a w := by exact fun _ _ _ h => h) : wpAnyE P .any l.toArray Q S E (fuel + 1) listed a W :=
  e_valG i hi hc rfl hQ ht hb he hv hF (ltB hd) K
theorem e_valGS' (i : Nat) {j : Nat} {want : Bool} {t : Nat} {b : Bool} (hi : l[i]? = some ⟨some d, op, ty, pos, af, some (j, want)⟩) (hc : canTake l listed i = true) (ht : ((l[j]?).bind (·.dst)) = some t) (hb : lk t L = some (.bool b)) (he : b = want) (hv : ∀ W, S W → Val P a W op v) (hS : S W) (hE : waitE E l.toArray listed i = true) (hF : FH n L a) (hd : Nat.blt d n = true)
    (K : ∀ a, FH n ((d, v) :: L) a → wpAnyE P .any l.toArray Q S E fuel (listed.setIfInBounds i true) a W) (hQ : ∀ c a w, Q (.panic c) (a.put (some d) v) w → Q (.panic c) a w := by exact fun _ _ _ h => h) : wpAnyE P .any l.toArray Q S E (fuel + 1) listed a W :=
  e_valGS i hi hc rfl hQ ht hb he hv hS hE hF (ltB hd) K
theorem e_no' (i : Nat) {j : Nat} {want : Bool} {t : Nat} {b : Bool} (hi : l[i]? = some ⟨some d, op, ty, pos, af, some (j, want)⟩) (hc : canTake l listed i = true) (ht : ((l[j]?).bind (·.dst)) = some t) (hb : lk t L = some (.bool b)) (he : b = !want) (hF : FH n L a) (hd : Nat.blt d n = true)
    (K : ∀ a, FH n ((d, undef) :: L) a → wpAnyE P .any l.toArray Q S E fuel (listed.setIfInBounds i true) a W) (hQ : ∀ c a w, Q (.panic c) (a.put (some d) undef) w → Q (.panic c) a w := by exact fun _ _ _ h => h) : wpAnyE P .any l.toArray Q S E (fuel + 1) listed a W :=
  e_no i hi hc rfl hQ ht hb he hF (ltB hd) K
theorem e_no2' (i : Nat) {j : Nat} {want : Bool} {t : Nat} (hi : l[i]? = some ⟨some d, op, ty, pos, af, some (j, want)⟩) (hc : canTake l listed i = true) (ht : ((l[j]?).bind (·.dst)) = some t) (hb : lk t L = some undef) (hF : FH n L a) (hd : Nat.blt d n = true)
    (K : ∀ a, FH n ((d, undef) :: L) a → wpAnyE P .any l.toArray Q S E fuel (listed.setIfInBounds i true) a W) (hQ : ∀ c a w, Q (.panic c) (a.put (some d) undef) w → Q (.panic c) a w := by exact fun _ _ _ h => h) : wpAnyE P .any l.toArray Q S E (fuel + 1) listed a W :=
  e_no2 i hi hc rfl hQ ht hb hF (ltB hd) K
theorem e_one' (i : Nat) (hi : l[i]? = some o) (hr : Region.ready .any l.toArray listed = [i])
    (h : wpList P l.toArray (Exit.then (fun a' w' => (S W → E i = false → S w') ∧ wpAnyE P .any l.toArray Q S E fuel (listed.setIfInBounds i true) a' w') Q) [o] a W) : wpAnyE P .any l.toArray Q S E (fuel + 1) listed a W := e_one i hi hr rfl h
theorem eqc (h : S W) (K : S W → wpAnyE P .any l.toArray Q S E fuel listed a W) : wpAnyE P .any l.toArray Q S E fuel listed a W := K h
end
/-! ### Operations under one guard, and the choice behind them -/
/-- Nothing of a frame stands in the first m slots that were laid on it. -/
def apart (m : Nat) (L : List (Nat × Value)) : Bool := (L.take m).all fun p => (L.drop m).all fun q => !(Nat.beq p.1 q.1)
theorem lk_drop {L : List (Nat × Value)} : ∀ (m : Nat), (∀ p ∈ L.take m, ∀ q ∈ L.drop m, p.1 ≠ q.1) → ∀ k v, lk k (L.drop m) = some v → lk k L = some v := by
  induction L with
  | nil => intro m _ k v h; simpa using h
  | cons x L ih =>
    intro m hm k v h
    cases m with
    | zero => simpa using h
    | succ m =>
      rw [List.drop_succ_cons] at h
      have h1 := ih m (fun p hp q hq => hm p (by rw [List.take_succ_cons]; exact List.mem_cons_of_mem _ hp) q (by simpa using hq)) k v h
      have hk : ∃ q ∈ L.drop m, q.1 = k := by
        clear ih hm h1
        generalize L.drop m = L' at h
        induction L' with
        | nil => simp [lk] at h
        | cons y L' ih' =>
          simp only [lk] at h
          cases hb : Nat.beq y.1 k with
          | true => exact ⟨y, List.mem_cons_self, Nat.eq_of_beq_eq_true hb⟩
          | false =>
            rw [hb] at h
            obtain ⟨q, hq, e⟩ := ih' h
            exact ⟨q, List.mem_cons_of_mem _ hq, e⟩
      obtain ⟨q, hq, e⟩ := hk
      have hne : x.1 ≠ k := by
        rw [← e]
        exact hm x (by rw [List.take_succ_cons]; exact List.mem_cons_self) q (by simpa using hq)
      simp only [lk]
      cases hb : Nat.beq x.1 k with
      | true => exact absurd (Nat.eq_of_beq_eq_true hb) hne
      | false => exact h1
theorem FH.less {L : List (Nat × Value)} (h : FH n L a) (m : Nat) (hm : apart m L = true) : FH n (L.drop m) a :=
  ⟨h.size, h.defers, fun k v hk => h.get k v (lk_drop m (fun p hp q hq e => by
    unfold apart at hm
    rw [List.all_eq_true] at hm
    have h1 := hm p hp
    rw [List.all_eq_true] at h1
    have h2 := h1 q hq
    rw [e, Nat.beq_refl] at h2
    cases h2) k v hk)⟩
theorem FH.free {x : Nat} {u : Value} (h : FH n L a) (hx : (L.all fun q => !(Nat.beq x q.1)) = true) : FH n L (a.put (some x) u) := by
  refine ⟨by simp [Act.put, h.size], by simp [Act.put, h.defers], fun k v hk => ?_⟩
  have hne : x ≠ k := by
    rintro rfl
    have : ∃ q ∈ L, q.1 = x := by
      clear h hx
      induction L with
      | nil => simp [lk] at hk
      | cons y L ih =>
        simp only [lk] at hk
        cases hb : Nat.beq y.1 x with
        | true => exact ⟨y, List.mem_cons_self, Nat.eq_of_beq_eq_true hb⟩
        | false =>
          rw [hb] at hk
          obtain ⟨q, hq, e⟩ := ih hk
          exact ⟨q, List.mem_cons_of_mem _ hq, e⟩
    obtain ⟨q, hq, e⟩ := this
    rw [List.all_eq_true] at hx
    have := hx q hq
    rw [e, Nat.beq_refl] at this
    cases this
  simp only [Act.put]
  rw [Array.getElem?_setIfInBounds, if_neg hne]
  exact h.get k v hk
/-- The same operation under no guard. -/
def bare (o : Oper) : Oper := ⟨o.dst, o.op, o.type, o.pos, o.after, none⟩
def segOk (j : Nat) (want : Bool) (gd : Nat) (L : List (Nat × Value)) (l : List Oper) : Bool :=
  l.all fun o => (match o.guard with | some (i, b) => Nat.beq i j && (b == want) | none => false) && (match o.dst with | some x => !(Nat.beq x gd) && L.all fun q => !(Nat.beq x q.1) | none => false)
theorem segOk_one {j : Nat} {want : Bool} {gd : Nat} {o : Oper} {l : List Oper} (h : segOk j want gd L (o :: l) = true) : o.guard = some (j, want) ∧ (∃ x, o.dst = some x ∧ x ≠ gd ∧ (L.all fun q => !(Nat.beq x q.1)) = true) ∧ segOk j want gd L l = true := by
  unfold segOk at h ⊢
  rw [List.all_cons, Bool.and_eq_true_iff, Bool.and_eq_true_iff] at h
  obtain ⟨⟨h1, h2⟩, h3⟩ := h
  refine ⟨?_, ?_, h3⟩
  · cases hg : o.guard with
    | none => rw [hg] at h1; cases h1
    | some p =>
      obtain ⟨i, b⟩ := p
      rw [hg] at h1
      simp only [Bool.and_eq_true, beq_iff_eq] at h1
      rw [Nat.eq_of_beq_eq_true h1.1, h1.2]
  · cases hd : o.dst with
    | none => rw [hd] at h2; cases h2
    | some x =>
      rw [hd] at h2
      simp only [Bool.and_eq_true, Bool.not_eq_true'] at h2
      refine ⟨x, rfl, ?_, ?_⟩
      · rintro rfl
        have := h2.1
        rw [Nat.beq_refl] at this
        cases this
      · simpa using h2.2
theorem put_keeps {x gd : Nat} {u : Value} (h : x ≠ gd) : (a.put (some x) u).tmps[gd]? = a.tmps[gd]? := by
  simp only [Act.put]
  rw [Array.getElem?_setIfInBounds, if_neg h]
theorem bare_to {j : Nat} {want : Bool} {gd : Nat} (ht : ((ops[j]?).bind (·.dst)) = some gd) : ∀ (l : List Oper) (a : Act) (W : World), segOk j want gd L l = true → a.tmps[gd]? = some (.bool want) → wpList P ops Q (l.map bare) a W → wpList P ops Q l a W
  | [], a, W, _, _, h => h
  | o :: l, a, W, hs, hg, h => by
    obtain ⟨h1, ⟨x, hx, hxg, _⟩, h3⟩ := segOk_one hs
    have hw : Region.wanted o (yielded ops a.tmps) = true := by simp [Region.wanted, h1, yielded, ht, hg]
    rw [List.map_cons] at h
    unfold wpList at h ⊢
    rw [if_pos hw]
    rw [if_pos (by simp [Region.wanted, bare])] at h
    have step : ∀ u w', wpList P ops Q (l.map bare) (a.put (some x) u) w' → wpList P ops Q l (a.put (some x) u) w' := fun u w' h' => bare_to ht l _ w' h3 (by rw [put_keeps hxg]; exact hg) h'
    rcases h with h | ⟨h4, h5⟩
    · refine .inl ?_
      unfold Oper.wp at h ⊢
      have e : (execOp a.eval (bare o)).run P W = (execOp a.eval o).run P W := rfl
      rw [e] at h
      generalize (execOp a.eval o).run P W = r at h
      have hd : (bare o).dst = o.dst := rfl
      cases r with
      | ok y w' =>
        cases y <;> simp only [Oper.upon, hd, hx] at h ⊢ <;> first | exact step _ _ h | skip
        case defer d => exact bare_to ht l _ w' h3 (by rw [put_keeps hxg]; exact hg) h
        case enter f args =>
          refine h.mono fun e w'' he => ?_
          cases e with
          | returned v => exact step _ _ he
          | panicked c => exact he
          | outgrown => exact he
        case row row args => exact h.mono fun v w'' he => step _ _ he
      | halt y w' =>
        cases y <;> simp only [Oper.upon] at h ⊢
        case panic v => exact h
    · exact .inr ⟨h4, h5⟩
theorem bare_no {j : Nat} {want c : Bool} {gd : Nat} (ht : ((ops[j]?).bind (·.dst)) = some gd) (hgl : lk gd L = some (.bool c)) (hne : c = !want) (K : ∀ a', FH n L a' → Q .normal a' W) : ∀ (l : List Oper) (a : Act), segOk j want gd L l = true → FH n L a → wpList P ops Q l a W
  | [], a, _, hF => K a hF
  | o :: l, a, hs, hF => by
    obtain ⟨h1, ⟨x, hx, hxg, hfree⟩, h3⟩ := segOk_one hs
    have hg := hF.get gd _ hgl
    have hw : ¬ Region.wanted o (yielded ops a.tmps) = true := by
      rw [wanted_at hF h1 ht hgl, hne]; cases want <;> simp
    unfold wpList
    rw [if_neg hw, hx]
    exact bare_no ht hgl hne K l _ h3 (hF.free hfree)
theorem wpL_mono {J J' : Act → World → Prop} (hj : ∀ a w, J a w → J' a w) : ∀ (l : List Oper) (a : Act) (w : World), wpList P ops (Exit.then J Q) l a w → wpList P ops (Exit.then J' Q) l a w
  | [], a, w, h => hj _ _ h
  | o :: l, a, w, h => by
    unfold wpList at h ⊢
    split
    · rename_i hw
      rw [if_pos hw] at h
      rcases h with h | ⟨h1, a', w', h2⟩
      · exact .inl (Oper.wp_mono2 (fun a w h => wpL_mono hj l a w h) (fun x a w hne hx => by cases x <;> first | exact absurd rfl hne | exact hx) h)
      · exact .inr ⟨h1, a', w', h2⟩
    · rename_i hw
      rw [if_neg hw] at h
      exact wpL_mono hj l _ w h
/-- Where guarded operations end. -/
def GT (n : Nat) (L : List (Nat × Value)) (y : Operand) (e : Bool) (W : World) (Q : Exit → Act → World → Prop) : Exit → Act → World → Prop := Exit.then (fun a' W' => W' = W ∧ FH n L a' ∧ a'.eval y = .bool e) Q
theorem gq {L' : List (Nat × Value)} {y : Operand} {e : Bool} (m : Nat) (hF : FH n L' a) (hm : apart m L' = true) (hL : L'.drop m = L) (hx : lkO L' y = some (.bool e)) : wpList P ops (GT n L y e W Q) [] a W := ⟨rfl, hL ▸ hF.less m hm, hF.ev hx⟩
theorem gand (m j gd : Nat) (e : Bool) {l : List Oper} {c : Bool} {y : Operand} (hF : FH n L a) (ht : ((ops[j]?).bind (·.dst)) = some gd) (hc : lk gd L = some (.bool c)) (hs : segOk j true gd L (l.take m) = true)
    (hp : l.drop m = ⟨some d, .pick (.tmp gd) y (.const (.bool false)), ty, pos, af, none⟩ :: rest) (hd : Nat.blt d n = true) (hy : c = true → wpList P ops (GT n L y e W Q) ((l.take m).map bare) a W)
    (K : ∀ a, FH n ((d, .bool (c && e)) :: L) a → wpList P ops Q rest a W) : wpList P ops Q l a W := by
  refine sq_cut m (fun a' W' => W' = W ∧ FH n L a' ∧ (c = true → a'.eval y = .bool e)) (fun a' W' hJ => ?_) ?_
  · obtain ⟨rfl, hF', he⟩ := hJ
    rw [hp]
    refine sq_val (v := .bool (c && e)) (fun d ty pos af g => ?_) hF' (ltB hd) K
    cases hcb : c with
    | true => simp [execOp, hF'.ev (x := .tmp gd) hc, asBool, hcb, he hcb]
    | false => simp [execOp, hF'.ev (x := .tmp gd) hc, asBool, hcb, show a'.eval (.const (.bool false)) = .bool false from rfl]
  · cases hcb : c with
    | true =>
      have hg := hF.get gd _ hc
      rw [hcb] at hg
      exact bare_to (L := L) ht (l.take m) a W hs hg (wpL_mono (fun a w h => ⟨h.1, h.2.1, fun _ => h.2.2⟩) _ _ _ (hy hcb))
    | false => exact bare_no (c := c) ht hc (by rw [hcb]; rfl) (fun a' hF' => ⟨rfl, hF', fun h => by cases h⟩) (l.take m) a hs hF
theorem gor (m j gd : Nat) (e : Bool) {l : List Oper} {c : Bool} {y : Operand} (hF : FH n L a) (ht : ((ops[j]?).bind (·.dst)) = some gd) (hc : lk gd L = some (.bool c)) (hs : segOk j false gd L (l.take m) = true)
    (hp : l.drop m = ⟨some d, .pick (.tmp gd) (.const (.bool true)) y, ty, pos, af, none⟩ :: rest) (hd : Nat.blt d n = true) (hy : c = false → wpList P ops (GT n L y e W Q) ((l.take m).map bare) a W)
    (K : ∀ a, FH n ((d, .bool (c || e)) :: L) a → wpList P ops Q rest a W) : wpList P ops Q l a W := by
  refine sq_cut m (fun a' W' => W' = W ∧ FH n L a' ∧ (c = false → a'.eval y = .bool e)) (fun a' W' hJ => ?_) ?_
  · obtain ⟨rfl, hF', he⟩ := hJ
    rw [hp]
    refine sq_val (v := .bool (c || e)) (fun d ty pos af g => ?_) hF' (ltB hd) K
    cases hcb : c with
    | true => simp [execOp, hF'.ev (x := .tmp gd) hc, asBool, hcb, show a'.eval (.const (.bool true)) = .bool true from rfl]
    | false => simp [execOp, hF'.ev (x := .tmp gd) hc, asBool, hcb, he hcb]
  · cases hcb : c with
    | false =>
      have hg := hF.get gd _ hc
      rw [hcb] at hg
      exact bare_to (L := L) ht (l.take m) a W hs hg (wpL_mono (fun a w h => ⟨h.1, h.2.1, fun _ => h.2.2⟩) _ _ _ (hy hcb))
    | true => exact bare_no (c := c) ht hc (by rw [hcb]; rfl) (fun a' hF' => ⟨rfl, hF', fun h => by cases h⟩) (l.take m) a hs hF
/-! the same, where the operations may grow the world, and come to what is bound ahead -/
def GS (n : Nat) (L : List (Nat × Value)) (y : Operand) (r : Bool) (M0 : Nat → Prop) (w0 : World) (bs : List Box) (rs : List Row) (fs : List Fact) (Q : Exit → Act → World → Prop) : Exit → Act → World → Prop :=
  Exit.then (fun a' W' => St M0 w0 bs rs fs W' ∧ FH n L a' ∧ a'.eval y = .bool r) Q
theorem gs {L' : List (Nat × Value)} {y : Operand} {r : Bool} (m : Nat) (hF : FH n L' a) (hS : St M0 w0 bs rs fs W) (hm : apart m L' = true) (hL : L'.drop m = L) (hx : lkO L' y = some (.bool r)) : wpList P ops (GS n L y r M0 w0 bs rs fs Q) [] a W := ⟨hS, hL ▸ hF.less m hm, hF.ev hx⟩
theorem gandB (m j gd : Nat) {l : List Oper} {c : Bool} {y : Operand} {ρ : Type} {X : Option Bool} {f : Bool → Option ρ} {o : ρ} (hF : FH n L a) (hS : St M0 w0 bs rs fs W) (h : ((if c = true then X else some false).bind f) = some o)
    (ht : ((ops[j]?).bind (·.dst)) = some gd) (hc : lk gd L = some (.bool c)) (hs : segOk j true gd L (l.take m) = true)
    (hp : l.drop m = ⟨some d, .pick (.tmp gd) y (.const (.bool false)), ty, pos, af, none⟩ :: rest) (hd : Nat.blt d n = true) (hy : ∀ r, X = some r → wpList P ops (GS n L y r M0 w0 bs rs fs Q) ((l.take m).map bare) a W)
    (K : ∀ r a W, f r = some o → FH n ((d, .bool r) :: L) a → St M0 w0 bs rs fs W → wpList P ops Q rest a W) : wpList P ops Q l a W := by
  obtain ⟨r, hr, hf⟩ := bindS h
  refine sq_cut m (fun a' W' => St M0 w0 bs rs fs W' ∧ FH n L a' ∧ (c = true → a'.eval y = .bool r)) (fun a' W' hJ => ?_) ?_
  · obtain ⟨hS', hF', he⟩ := hJ
    rw [hp]
    refine sq_val (v := .bool r) (fun d ty pos af g => ?_) hF' (ltB hd) fun a hF => K r a W' hf hF hS'
    cases hcb : c with
    | true => simp [execOp, hF'.ev (x := .tmp gd) hc, asBool, hcb, he hcb]
    | false =>
      rw [hcb] at hr
      have hr' : false = r := by simpa using hr
      subst hr'
      simp [execOp, hF'.ev (x := .tmp gd) hc, asBool, hcb, show a'.eval (.const (.bool false)) = .bool false from rfl]
  · cases hcb : c with
    | true =>
      have hg := hF.get gd _ hc
      rw [hcb] at hg
      exact bare_to (L := L) ht (l.take m) a W hs hg (wpL_mono (fun a w h => ⟨h.1, h.2.1, fun _ => h.2.2⟩) _ _ _ (hy r (ifT hcb hr)))
    | false => exact bare_no (c := c) ht hc (by rw [hcb]; rfl) (fun a' hF' => ⟨hS, hF', fun h => by cases h⟩) (l.take m) a hs hF
theorem gorB (m j gd : Nat) {l : List Oper} {c : Bool} {y : Operand} {ρ : Type} {X : Option Bool} {f : Bool → Option ρ} {o : ρ} (hF : FH n L a) (hS : St M0 w0 bs rs fs W) (h : ((if c = true then some true else X).bind f) = some o)
    (ht : ((ops[j]?).bind (·.dst)) = some gd) (hc : lk gd L = some (.bool c)) (hs : segOk j false gd L (l.take m) = true)
    (hp : l.drop m = ⟨some d, .pick (.tmp gd) (.const (.bool true)) y, ty, pos, af, none⟩ :: rest) (hd : Nat.blt d n = true) (hy : ∀ r, X = some r → wpList P ops (GS n L y r M0 w0 bs rs fs Q) ((l.take m).map bare) a W)
    (K : ∀ r a W, f r = some o → FH n ((d, .bool r) :: L) a → St M0 w0 bs rs fs W → wpList P ops Q rest a W) : wpList P ops Q l a W := by
  obtain ⟨r, hr, hf⟩ := bindS h
  refine sq_cut m (fun a' W' => St M0 w0 bs rs fs W' ∧ FH n L a' ∧ (c = false → a'.eval y = .bool r)) (fun a' W' hJ => ?_) ?_
  · obtain ⟨hS', hF', he⟩ := hJ
    rw [hp]
    refine sq_val (v := .bool r) (fun d ty pos af g => ?_) hF' (ltB hd) fun a hF => K r a W' hf hF hS'
    cases hcb : c with
    | false => simp [execOp, hF'.ev (x := .tmp gd) hc, asBool, hcb, he hcb]
    | true =>
      rw [hcb] at hr
      have hr' : true = r := by simpa using hr
      subst hr'
      simp [execOp, hF'.ev (x := .tmp gd) hc, asBool, hcb, show a'.eval (.const (.bool true)) = .bool true from rfl]
  · cases hcb : c with
    | false =>
      have hg := hF.get gd _ hc
      rw [hcb] at hg
      exact bare_to (L := L) ht (l.take m) a W hs hg (wpL_mono (fun a w h => ⟨h.1, h.2.1, fun _ => h.2.2⟩) _ _ _ (hy r (ifF hcb hr)))
    | true => exact bare_no (c := c) ht hc (by rw [hcb]; rfl) (fun a' hF' => ⟨hS, hF', fun h => by cases h⟩) (l.take m) a hs hF
end
end Go.Pod
