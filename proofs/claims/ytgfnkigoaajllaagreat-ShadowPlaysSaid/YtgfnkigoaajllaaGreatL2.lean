/- Plain words for walks: the slots of a frame, and one law for each kind of operation. Nothing of the program in it. -/
import Derived.Test.YtgfnkigoaajllaaGreatL1
import Derived.Deep.Quiet
import Derived.Deep.RegionHeld
import Derived.Deep.LoopGhost
set_option linter.unusedVariables false
set_option linter.unusedSimpArgs false
namespace Go.Pod
open Go.RowKit

/-! ### Frames -/
def lk (k : Nat) : List (Nat × Value) → Option Value
  | [] => none
  | (j, v) :: L => bif Nat.beq j k then some v else lk k L
def lkO (L : List (Nat × Value)) : Operand → Option Value
  | .tmp t => lk t L
  | .const v => some v
  | .func f => some (.func (.func f) #[] #[])
  | .global g => some (.pointer (some ⟨g, 0, none⟩))

structure FH (n : Nat) (L : List (Nat × Value)) (a : Act) : Prop where
  size : a.tmps.size = n
  defers : a.defers = []
  get : ∀ k v, lk k L = some v → a.tmps[k]? = some v

theorem FH.put {n : Nat} {L : List (Nat × Value)} {a : Act} (h : FH n L a) {d : Nat} (hd : d < n) (v : Value) : FH n ((d, v) :: L) (a.put (some d) v) := by
  refine ⟨by simp [Act.put, h.size], by simp [Act.put, h.defers], fun k u hk => ?_⟩
  simp only [lk] at hk
  simp only [Act.put]
  cases hb : Nat.beq d k with
  | true =>
    rw [hb] at hk
    simp only [cond_true, Option.some.injEq] at hk
    have : d = k := Nat.eq_of_beq_eq_true hb
    subst this; subst hk
    rw [Array.getElem?_setIfInBounds]
    simp [h.size, hd]
  | false =>
    rw [hb] at hk
    simp only [cond_false] at hk
    have hne : d ≠ k := fun e => by rw [e] at hb; simp at hb
    rw [Array.getElem?_setIfInBounds, if_neg hne]
    exact h.get k u hk
theorem FH.ev {n : Nat} {L : List (Nat × Value)} {a : Act} (h : FH n L a) {x : Operand} {v : Value} (hx : lkO L x = some v) : a.eval x = v := by
  cases x with
  | tmp t =>
    have := h.get t v hx
    simp [Act.eval, Array.getD_eq_getD_getElem?, this]
  | const c => simpa [lkO, Act.eval] using hx
  | func f => simpa [lkO, Act.eval] using hx
  | global g => simpa [lkO, Act.eval] using hx

/-- What of the slots is kept. -/
def Keeps (L : List (Nat × Value)) : List (Nat × Value) → Prop
  | [] => True
  | (k, v) :: L' => lk k L = some v ∧ Keeps L L'
theorem FH.keep {n : Nat} {L L' : List (Nat × Value)} {a : Act} (h : FH n L a) (hk : Keeps L L') : FH n L' a := by
  refine ⟨h.size, h.defers, ?_⟩
  induction L' with
  | nil => intro k v hv; simp [lk] at hv
  | cons p r ih =>
    obtain ⟨j, u⟩ := p
    intro k v hv
    simp only [lk] at hv
    cases hb : Nat.beq j k with
    | true =>
      rw [hb] at hv
      simp only [cond_true, Option.some.injEq] at hv
      have : j = k := Nat.eq_of_beq_eq_true hb
      subst this; subst hv
      exact h.get _ _ hk.1
    | false =>
      rw [hb] at hv
      exact ih hk.2 k v hv

def argL : Nat → List Value → List (Nat × Value)
  | _, [] => []
  | i, v :: vs => (i, v) :: argL (i + 1) vs
theorem lk_argL (vs : List Value) : ∀ (i k : Nat) (v : Value), lk k (argL i vs) = some v → i ≤ k ∧ vs[k - i]? = some v := by
  induction vs with
  | nil => intro i k v h; simp [argL, lk] at h
  | cons u r ih =>
    intro i k v h
    simp only [argL, lk] at h
    cases hb : Nat.beq i k with
    | true =>
      have e : i = k := Nat.eq_of_beq_eq_true hb
      rw [hb] at h
      simp only [cond_true, Option.some.injEq] at h
      subst e; subst h
      simp
    | false =>
      rw [hb] at h
      simp only [cond_false] at h
      obtain ⟨h1, h2⟩ := ih (i + 1) k v h
      refine ⟨by omega, ?_⟩
      rw [show k - i = (k - (i + 1)) + 1 from by omega]
      simpa using h2
/-- A call begins: the arguments in the first slots. -/
theorem calls_start {P : Program} {f : FuncId} {fn : Func} {c : Code} {n : Nat} {args : List Value} {W : World} {R : Ending → World → Prop}
    (hf : P.funcs[f]? = some fn) (hb : fn.body = some c) (hn : fn.ntmps = n) (hl : args.length ≤ n) (K : ∀ a, FH n (argL 0 args) a → c.wp P (bodyPost P fn R) a W) :
    Calls P f args.toArray W R := by
  refine calls_of_wp hf hb (K _ ⟨?_, rfl, fun k v hk => ?_⟩)
  · simp only [Array.size_append, List.size_toArray, Array.size_replicate]; omega
  · obtain ⟨_, h2⟩ := lk_argL args 0 k v hk
    have hlt : k < args.length := by
      have := (List.getElem?_eq_some_iff.1 h2).1
      omega
    rw [Array.getElem?_append_left (by simpa using hlt)]
    simpa using h2

/-! ### Code -/
section
variable {P : Program} {Q : Exit → Act → World → Prop} {a : Act} {W : World}
theorem wp_reg {id : Nat} {l : List Oper} (h : wpList P l.toArray Q l a W) : (Code.region id l.toArray false).wp P Q a W := wp_region_lit h
theorem then_n {y : Code} (h : y.wp P Q a W) : Exit.then (y.wp P Q) Q .normal a W := h
theorem wp_seq_j {x y : Code} (J : Act → World → Prop) (hy : ∀ a W, J a W → y.wp P Q a W) (hx : x.wp P (Exit.then J Q) a W) : (Code.seq x y).wp P Q a W :=
  wp_seq (wp_mono hx fun e a w h => by cases e <;> first | exact hy _ _ h | exact h)
theorem wp_if {n : Nat} {L : List (Nat × Value)} {c : Operand} {x y : Code} {b : Bool} (hF : FH n L a) (hc : lkO L c = some (.bool b)) (ht : b = true → x.wp P Q a W) (hf : b = false → y.wp P Q a W) :
    (Code.cond c x y).wp P Q a W := wp_cond_split (hF.ev hc) ht hf
theorem wp_loop_fuel {c : Code} {I : Nat → Act → World → Prop} (step : ∀ k a W, I k a W → c.wp P (Exit.then (fun a' W' => ∃ k', k' < k ∧ I k' a' W') Q) a W) {k : Nat} (h : I k a W) :
    (Code.loop c).wp P Q a W := wp_loop_ghost I k h fun n a w hI => step n a w hI
end

/-! ### One operation -/
/-- It yields this value and leaves the world alone. -/
def Val (P : Program) (a : Act) (W : World) (op : Op) (v : Value) : Prop := ∀ d ty pos af g, (execOp a.eval ⟨d, op, ty, pos, af, g⟩).run P W = .ok (.value v) W

section
variable {P : Program} {ops : Array Oper} {Q : Exit → Act → World → Prop} {a : Act} {W : World} {rest : List Oper} {n : Nat} {L : List (Nat × Value)}
  {d : Nat} {op : Op} {ty : TypeId} {pos : String} {af : Array Edge} {g : Option (Nat × Bool)} {v : Value}

theorem sq_nil (h : Q .normal a W) : wpList P ops Q [] a W := h
theorem sq_run {W' : World} (hr : (execOp a.eval ⟨some d, op, ty, pos, af, none⟩).run P W = .ok (.value v) W') (hF : FH n L a) (hd : d < n)
    (K : ∀ a, FH n ((d, v) :: L) a → wpList P ops Q rest a W') : wpList P ops Q (⟨some d, op, ty, pos, af, none⟩ :: rest) a W := by
  refine wpList_plain rfl fun K' hK => ?_
  unfold Oper.wp
  rw [hr, Oper.upon_value]
  exact hK _ _ (K _ (hF.put hd v))
theorem sq_val (hv : Val P a W op v) (hF : FH n L a) (hd : d < n) (K : ∀ a, FH n ((d, v) :: L) a → wpList P ops Q rest a W) :
    wpList P ops Q (⟨some d, op, ty, pos, af, none⟩ :: rest) a W := sq_run (hv _ _ _ _ _) hF hd K
/-- A value that is dropped. -/
theorem sq_val0 (hv : Val P a W op v) (K : wpList P ops Q rest a W) : wpList P ops Q (⟨none, op, ty, pos, af, none⟩ :: rest) a W := by
  refine wpList_plain rfl fun K' hK => ?_
  unfold Oper.wp
  rw [hv, Oper.upon_value]
  exact hK _ _ K
theorem sq_skip {W' : World} (hr : (execOp a.eval ⟨none, op, ty, pos, af, none⟩).run P W = .ok .skip W') (K : wpList P ops Q rest a W') : wpList P ops Q (⟨none, op, ty, pos, af, none⟩ :: rest) a W := by
  refine wpList_plain rfl fun K' hK => ?_
  unfold Oper.wp
  rw [hr, Oper.upon_skip]
  exact hK _ _ K

/-! guards: the slot that is asked holds b -/
theorem wanted_at (hF : FH n L a) {o : Oper} {j : Nat} {want : Bool} {t : Nat} {b : Bool} (hg : o.guard = some (j, want)) (ht : ((ops[j]?).bind (·.dst)) = some t) (hb : lk t L = some (.bool b)) :
    Region.wanted o (yielded ops a.tmps) = (b == want) := by
  have := hF.get t _ hb
  simp [Region.wanted, hg, yielded, ht, this]
theorem sq_yes {j : Nat} {want : Bool} {t : Nat} {b : Bool} (hF : FH n L a) (ht : ((ops[j]?).bind (·.dst)) = some t) (hb : lk t L = some (.bool b)) (he : b = want)
    (K : wpList P ops Q (⟨some d, op, ty, pos, af, none⟩ :: rest) a W) : wpList P ops Q (⟨some d, op, ty, pos, af, some (j, want)⟩ :: rest) a W := by
  have hw : Region.wanted (⟨some d, op, ty, pos, af, some (j, want)⟩ : Oper) (yielded ops a.tmps) = true := by
    rw [wanted_at hF rfl ht hb, he]; simp
  unfold wpList at K ⊢
  rw [if_pos hw]
  rw [if_pos (by simp [Region.wanted])] at K
  exact K
theorem sq_no {j : Nat} {want : Bool} {t : Nat} {b : Bool} {dst : Option Nat} (hF : FH n L a) (ht : ((ops[j]?).bind (·.dst)) = some t) (hb : lk t L = some (.bool b)) (he : b = !want)
    (hd : ∀ x, dst = some x → x < n) (K : ∀ a, FH n (match dst with | some x => (x, undef) :: L | none => L) a → wpList P ops Q rest a W) : wpList P ops Q (⟨dst, op, ty, pos, af, some (j, want)⟩ :: rest) a W := by
  have hw : ¬ Region.wanted (⟨dst, op, ty, pos, af, some (j, want)⟩ : Oper) (yielded ops a.tmps) = true := by
    rw [wanted_at hF rfl ht hb, he]; cases want <;> simp
  unfold wpList
  rw [if_neg hw]
  cases dst with
  | none => exact K a hF
  | some x => exact K _ (hF.put (hd x rfl) undef)
/-- An operation that waits for one that was passed over is passed over too. -/
theorem sq_no2 {j : Nat} {want : Bool} {t : Nat} {dst : Option Nat} (hF : FH n L a) (ht : ((ops[j]?).bind (·.dst)) = some t) (hb : lk t L = some undef)
    (hd : ∀ x, dst = some x → x < n) (K : ∀ a, FH n (match dst with | some x => (x, undef) :: L | none => L) a → wpList P ops Q rest a W) : wpList P ops Q (⟨dst, op, ty, pos, af, some (j, want)⟩ :: rest) a W := by
  have hw : ¬ Region.wanted (⟨dst, op, ty, pos, af, some (j, want)⟩ : Oper) (yielded ops a.tmps) = true := by
    have := hF.get t _ hb
    simp [Region.wanted, yielded, ht, this, undef]
  unfold wpList
  rw [if_neg hw]
  cases dst with
  | none => exact K a hF
  | some x => exact K _ (hF.put (hd x rfl) undef)
/-- What stands ahead in a region, apart from the rest of it. -/
theorem Oper.wp_mono2 {o : Oper} {K K' : Act → World → Prop} {Q Q' : Exit → Act → World → Prop} (h : ∀ a w, K a w → K' a w) (hq : ∀ e a w, e ≠ .normal → Q e a w → Q' e a w) {a : Act} {w : World}
    (hh : o.wp P a w K Q) : o.wp P a w K' Q' := by
  have hout : LetsOut Q → LetsOut Q' := fun ⟨a, w, hx⟩ => ⟨a, w, hq _ _ _ (by simp) hx⟩
  unfold Oper.wp at *
  generalize (execOp a.eval o).run P w = r at *
  cases r with
  | ok x w' =>
    cases x <;> simp only [Oper.upon] at hh ⊢ <;> first | exact h _ _ hh | skip
    case enter f args =>
      refine hh.mono fun e w'' he => ?_
      cases e with
      | returned v => exact h _ _ he
      | panicked c => exact hq _ _ _ (by simp) he
      | outgrown => exact hout he
    case row row args => exact hh.mono fun v w'' he => h _ _ he
  | halt x w' =>
    cases x <;> simp only [Oper.upon] at hh ⊢
    case panic v => exact hq _ _ _ (by simp) hh
theorem wpList_append : ∀ (l r : List Oper) (a : Act) (w : World), wpList P ops (Exit.then (wpList P ops Q r) Q) l a w → wpList P ops Q (l ++ r) a w
  | [], r, a, w, h => h
  | o :: l, r, a, w, h => by
    have hq : ∀ e a w, e ≠ Exit.normal → Exit.then (wpList P ops Q r) Q e a w → Q e a w := by
      intro e a w hne hx
      cases e <;> first | exact absurd rfl hne | exact hx
    unfold wpList at h
    rw [List.cons_append]
    unfold wpList
    split
    · rename_i hw
      rw [if_pos hw] at h
      rcases h with h | ⟨h1, a', w', h2⟩
      · exact .inl (Oper.wp_mono2 (fun a w h => wpList_append l r a w h) hq h)
      · exact .inr ⟨h1, a', w', hq _ _ _ (by simp) h2⟩
    · rename_i hw
      rw [if_neg hw] at h
      exact wpList_append l r _ w h
/-- The first n operations, then the others, under one relation. -/
theorem sq_cut (n : Nat) {l : List Oper} (J : Act → World → Prop) (hr : ∀ a W, J a W → wpList P ops Q (l.drop n) a W) (hl : wpList P ops (Exit.then J Q) (l.take n) a W) : wpList P ops Q l a W := by
  have hq : ∀ e a w, e ≠ Exit.normal → Exit.then J Q e a w → Exit.then (wpList P ops Q (l.drop n)) Q e a w := by
    intro e a w hne hx
    cases e <;> first | exact absurd rfl hne | exact hx
  have hm : ∀ (m : List Oper) (a : Act) (w : World), wpList P ops (Exit.then J Q) m a w → wpList P ops (Exit.then (wpList P ops Q (l.drop n)) Q) m a w := by
    intro m
    induction m with
    | nil => intro a w h; exact hr _ _ h
    | cons o m ih =>
      intro a w h
      unfold wpList at h ⊢
      split
      · rename_i hw
        rw [if_pos hw] at h
        rcases h with h | ⟨h1, a', w', h2⟩
        · exact .inl (Oper.wp_mono2 ih hq h)
        · exact .inr ⟨h1, a', w', hq _ _ _ (by simp) h2⟩
      · rename_i hw
        rw [if_neg hw] at h
        exact ih _ w h
  have := wpList_append (l.take n) (l.drop n) a W (hm _ _ _ hl)
  rwa [List.take_append_drop] at this
end
end Go.Pod
