/- Plain words for walks: small laws on equations of options, on arrays, on places. Nothing of the program in it. -/
import Derived.Test.YtgfnkigoaajllaaGreatL5
set_option linter.unusedVariables false
set_option linter.unusedSimpArgs false
namespace Go.Pod
open Go.RowKit

/-! ### Options -/
theorem bindS {α β : Type} {m : Option α} {f : α → Option β} {o : β} (h : m.bind f = some o) : ∃ x, m = some x ∧ f x = some o := Option.bind_eq_some_iff.1 h
theorem ifS {α : Type} {c : Prop} [Decidable c] {x : Option α} {o : α} (h : (if c then x else none) = some o) : c ∧ x = some o := by
  by_cases hc : c
  · rw [if_pos hc] at h; exact ⟨hc, h⟩
  · rw [if_neg hc] at h; cases h
theorem ifT {α : Type} {b : Bool} {x y r : α} (hb : b = true) (h : (if b = true then x else y) = r) : x = r := by rwa [if_pos hb] at h
theorem ifF {α : Type} {b : Bool} {x y r : α} (hb : b = false) (h : (if b = true then x else y) = r) : y = r := by rwa [if_neg (by rw [hb]; decide)] at h
theorem and_t {b x : Bool} (h : b = true) : (b && x) = x := by rw [h]; rfl
theorem and_f {b x : Bool} (h : b = false) : (b && x) = false := by rw [h]; rfl
theorem or_t {b x : Bool} (h : b = true) : (b || x) = true := by rw [h]; rfl
theorem or_f {b x : Bool} (h : b = false) : (b || x) = x := by rw [h]; rfl
theorem boolV {x y : Bool} (h : y = x) : some (Value.bool x) = some (Value.bool y) := by rw [h]
/-- How a part of a function ends: it returns, or goes on. -/
inductive Lo (ρ β : Type) where
  | ret (r : ρ)
  | brk (b : β)

theorem wp_join {P : Program} {x : Code} {Q : Exit → Act → World → Prop} {a : Act} {W : World} (J : Act → World → Prop) (hJ : ∀ a W, J a W → Q .normal a W) (hx : x.wp P (Exit.then J Q) a W) : x.wp P Q a W :=
  wp_mono hx fun e a w h => by cases e <;> first | exact hJ _ _ h | exact h

/-! ### Arrays of whole numbers -/
abbrev Arr (n : Nat) := Fin n → Int
def Arr.at {n : Nat} (f : Arr n) (i : Int) : Int := if h : i.toNat < n then f ⟨i.toNat, h⟩ else 0
def Arr.upd {n : Nat} (f : Arr n) (i v : Int) : Arr n := fun j => bif Nat.beq j.val i.toNat then v else f j
def Arr.zero {n : Nat} : Arr n := fun _ => 0
def Arr.beq {n : Nat} (f g : Arr n) : Bool := (List.finRange n).all fun i => f i == g i
theorem Arr.beq_iff {n : Nat} {f g : Arr n} : Arr.beq f g = true ↔ f = g := by
  unfold Arr.beq
  simp only [List.all_eq_true, List.mem_finRange, true_implies, beq_iff_eq]
  exact ⟨funext, fun h x => by rw [h]⟩

/-! ### Places -/
section
variable {W W' : World}
theorem cells_sub {q p : Addr} {cs vs : List Value} {o : Nat} (h : CellsAt W q cs) (hp : p = q.add o) (hv : (cs.drop o).take vs.length = vs) : CellsAt W p vs := by
  subst hp
  refine h.sub fun j u hj => ?_
  have hjl : j < vs.length := (List.getElem?_eq_some_iff.1 hj).1
  rw [← hv, List.getElem?_take, if_pos hjl, List.getElem?_drop] at hj
  exact hj
theorem CellsAt.grow {p : Addr} {cs : List Value} (h : CellsAt W p cs) (k : Bl W.heap.size W W') : CellsAt W' p cs := by
  intro j u hj
  have h1 := h j u hj
  rw [World.cell?_of_block (w := W) (k.block _ (cell_lt h1))]
  exact h1
theorem blk_cells {b : Nat} {cs : List Value} {T : TypeId} (h : W.heap[b]? = some (.cells cs.toArray T (0, 0))) : CellsAt W ⟨b, 0, none⟩ cs := row_cells h (by simp)
theorem add3 (q : Addr) (a b c : Nat) : ((q.add a).add b).add c = q.add (a + b + c) := by rw [add_add, add_add, Nat.add_assoc]
theorem add4 (q : Addr) (a b c d : Nat) : (((q.add a).add b).add c).add d = q.add (a + b + c + d) := by rw [add_add, add_add, add_add]; simp only [Nat.add_assoc]
end
section
variable {M0 : Nat → Prop} {w0 : World} {bs : List Box} {rs : List Row} {fs : List Fact} {W W' : World}
theorem St.bc (h : St M0 w0 bs rs fs W) {i b : Nat} {cs : List Value} {T : TypeId} (hi : bs[i]? = some ⟨b, cs, T⟩) : CellsAt W ⟨b, 0, none⟩ cs := blk_cells (h.bx hi).2
theorem St.pc (h : St M0 w0 bs rs fs W) {i : Nat} {α : Type} {κ : Kd α} {a : Addr} {cs : List Value} {x : α} (hi : fs[i]? = some (fAt κ a cs x)) : CellsAt W a cs := (h.fc hi).2.2.1
theorem St.fbc (h : St M0 w0 bs rs fs W) {i b : Nat} {cs : List Value} {T : TypeId} (hi : fs[i]? = some (fBox b cs T)) : CellsAt W ⟨b, 0, none⟩ cs := blk_cells (h.fc hi).2
/-- The worlds of a quiet walk. -/
def QC (M0 : Nat → Prop) (w0 : World) (bs : List Box) (rs : List Row) (fs : List Fact) (W : World) : World → Prop := fun W' => Bl W.heap.size W W' ∧ St M0 w0 bs rs fs W'
theorem QC.next {W'' : World} (h : QC M0 w0 bs rs fs W W') (k : Bl W'.heap.size W' W'') : QC M0 w0 bs rs fs W W'' :=
  ⟨h.1.trans (k.mono h.1.size), h.2.grow k⟩
theorem wp_quiet {P : Program} {id : Nat} {l : List Oper} {Q : Exit → Act → World → Prop} {a : Act} (hm : P.follows .mixedOrders = true) (hB : Region.lexB .any l.toArray = true) (hS : St M0 w0 bs rs fs W)
    (h : wpQuiet P l.toArray (QC M0 w0 bs rs fs W) (fun a' => ∀ W', QC M0 w0 bs rs fs W W' → Q .normal a' W') l a) : (Code.region id l.toArray true).wp P Q a W :=
  wp_region_quiet (C := QC M0 w0 bs rs fs W) hm hB ⟨(Bl.refl _ _).drew, hS.grow ((Bl.refl _ _).drew)⟩ (by simpa using h)
theorem q_of {P : Program} {f : FuncId} {vs : Array Value} {V : Value} (hC : QC M0 w0 bs rs fs W W') (hc : Calls P f vs W' fun e W'' => ∃ v, e = .returned v ∧ (v = V ∧ St (Mut M0 bs rs) W' [] [] [] W'')) :
    Calls P f vs W' fun e W'' => e = .returned V ∧ QC M0 w0 bs rs fs W W'' :=
  hc.mono fun e W'' ⟨v, he, hv, hT⟩ => ⟨by rw [he, hv], hC.next hT.below⟩
/-- A whole region by any order: one operation that comes up next, as a list of one. -/
theorem op_list {P : Program} {ops : Array Oper} {Q : Exit → Act → World → Prop} {K : Act → World → Prop} {i : Nat} {o : Oper} {a : Act} (ho : ops[i]? = some o) (h : wpList P ops (Exit.then K Q) [o] a W) : wpOp P ops Q i K a W := by
  unfold wpOp
  simp only [ho]
  unfold wpList at h
  split
  · rename_i hw
    rw [if_pos hw] at h
    rcases h with h | ⟨h1, a', w', h2⟩
    · exact .inl (Oper.wp_mono2 (fun a w h => h) (fun e a w hne h => by cases e <;> first | exact absurd rfl hne | exact h) h)
    · exact .inr ⟨h1, a', w', h2⟩
  · rename_i hw
    rw [if_neg hw] at h
    exact h
end
section
variable {P : Program} {ops : Array Oper} {a : Act} {n : Nat} {L : List (Nat × Value)} {d : Nat} {op : Op} {ty : TypeId} {pos : String} {af : Array Edge} {g : Option (Nat × Bool)} {v : Value} {S : World → Prop} {Q : Exit → Act → World → Prop}
theorem yields_if (hv : ∀ W, S W → Val P a W op v) : YieldsIf P ops S ⟨some d, op, ty, pos, af, none⟩ v a := .inl ⟨by simp [Region.wanted], fun w hw => hv w hw _ _ _ _ _⟩
end
theorem Kd.flat_R {α : Type} {sz : Nat} {enc : α → List Value} {hl : ∀ x, (enc x).length = sz} {h1 : ∀ x, ∀ u ∈ enc x, u.oneCell' = true} {M : Nat → Prop} {W : World} {cs : List Value} {x : α} (h : (Kd.flat sz enc hl h1).R M W cs x) : cs = enc x := h
end Go.Pod
