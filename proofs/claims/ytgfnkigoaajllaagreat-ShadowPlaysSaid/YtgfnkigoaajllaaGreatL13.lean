/- Plain words for walks: function values as arguments. Nothing of the program in it. -/
import Derived.Test.YtgfnkigoaajllaaGreatL12
set_option linter.unusedVariables false
set_option linter.unusedSimpArgs false
namespace Go.Pod
open Go.RowKit

def AllF : List Fact → (Nat → Prop) → World → Prop
  | [], _, _ => True
  | f :: fs, M, W => f.p M W ∧ AllF fs M W
theorem AllF.mem {M : Nat → Prop} {W : World} : ∀ {fs : List Fact}, AllF fs M W → ∀ f ∈ fs, f.p M W
  | f :: fs, h, g, hg => by
    rcases List.mem_cons.1 hg with rfl | hg
    · exact h.1
    · exact h.2.mem g hg
theorem St.ofAll {M : Nat → Prop} {W : World} {fs : List Fact} (hv : ∀ k, M k → k < W.heap.size) (h : AllF fs M W) : St M W [] [] fs W := St.refl hv h.mem

/-- A function value of one argument: what a call of it comes to, from here on. -/
def FnOk1 (P : Program) (F : FuncId) (caps : List Value) {α β : Type} (κ : Kd α) (g : Bool) (p : α → Option β) (res : β → Value) (M : Nat → Prop) (W : World) : Prop :=
  pCall P F = true ∧ ∀ (M' : Nat → Prop) (W' : World), Stp M W M' W' → (∀ k, M' k → k < W'.heap.size) → ∀ (cs : List Value) (x : α) (y : β), κ.R M' W' cs x → p x = some y →
    Calls P F ([aggV g cs] ++ caps).toArray W' fun e W'' => ∃ v, e = .returned v ∧ (v = res y ∧ Bl W'.heap.size W' W'')
def fFn1 (P : Program) (F : FuncId) (caps : List Value) {α β : Type} (κ : Kd α) (g : Bool) (p : α → Option β) (res : β → Value) : Fact :=
  ⟨fun M W => FnOk1 P F caps κ g p res M W, fun h s => ⟨h.1, fun M' W' s' => h.2 M' W' (s.trans s')⟩⟩
/-- .. of two arguments. -/
def FnOk2 (P : Program) (F : FuncId) (caps : List Value) {α β γ : Type} (κ : Kd α) (g : Bool) (κ2 : Kd β) (g2 : Bool) (p : α → β → Option γ) (res : γ → Value) (M : Nat → Prop) (W : World) : Prop :=
  pCall P F = true ∧ ∀ (M' : Nat → Prop) (W' : World), Stp M W M' W' → (∀ k, M' k → k < W'.heap.size) → ∀ (cs : List Value) (x : α) (cs2 : List Value) (x2 : β) (y : γ), κ.R M' W' cs x → κ2.R M' W' cs2 x2 → p x x2 = some y →
    Calls P F ([aggV g cs, aggV g2 cs2] ++ caps).toArray W' fun e W'' => ∃ v, e = .returned v ∧ (v = res y ∧ Bl W'.heap.size W' W'')
def fFn2 (P : Program) (F : FuncId) (caps : List Value) {α β γ : Type} (κ : Kd α) (g : Bool) (κ2 : Kd β) (g2 : Bool) (p : α → β → Option γ) (res : γ → Value) : Fact :=
  ⟨fun M W => FnOk2 P F caps κ g κ2 g2 p res M W, fun h s => ⟨h.1, fun M' W' s' => h.2 M' W' (s.trans s')⟩⟩
section
variable {P : Program} {F : FuncId} {caps : List Value} {α β γ : Type} {κ : Kd α} {g : Bool} {κ2 : Kd β} {g2 : Bool} {p : α → Option γ} {p2 : α → β → Option γ} {res : γ → Value} {M0 : Nat → Prop} {w0 : World} {bs : List Box} {rs : List Row} {fs : List Fact} {W W0 : World}
theorem call1 (h : FnOk1 P F caps κ g p res (Mut M0 bs rs) W) (hS : St M0 w0 bs rs fs W) {cs : List Value} {x : α} {y : γ} (hr : κ.R (Mut M0 bs rs) W cs x) (hp : p x = some y) :
    Calls P F ([aggV g cs] ++ caps).toArray W fun e W' => ∃ v, e = .returned v ∧ (v = res y ∧ Bl W.heap.size W W') := h.2 _ _ (Stp.refl _ _) hS.mut_lt _ _ _ hr hp
theorem call2 (h : FnOk2 P F caps κ g κ2 g2 p2 res (Mut M0 bs rs) W) (hS : St M0 w0 bs rs fs W) {cs cs2 : List Value} {x : α} {x2 : β} {y : γ} (hr : κ.R (Mut M0 bs rs) W cs x) (hr2 : κ2.R (Mut M0 bs rs) W cs2 x2) (hp : p2 x x2 = some y) :
    Calls P F ([aggV g cs, aggV g2 cs2] ++ caps).toArray W fun e W' => ∃ v, e = .returned v ∧ (v = res y ∧ Bl W.heap.size W W') := h.2 _ _ (Stp.refl _ _) hS.mut_lt _ _ _ _ _ hr hr2 hp
theorem qcall {f : FuncId} {vs : Array Value} {V : Value} (hC : QC M0 w0 bs rs fs W0 W) (hc : Calls P f vs W fun e W' => ∃ v, e = .returned v ∧ (v = V ∧ Bl W.heap.size W W')) :
    Calls P f vs W fun e W' => e = .returned V ∧ QC M0 w0 bs rs fs W0 W' := hc.mono fun e W' ⟨v, he, hv, hb⟩ => ⟨by rw [he, hv], hC.next hb⟩
theorem fromSt {f : FuncId} {vs : Array Value} {V : Value} {M : Nat → Prop} (hc : Calls P f vs W fun e W' => ∃ v, e = .returned v ∧ (v = V ∧ St M W [] [] [] W')) :
    Calls P f vs W fun e W' => ∃ v, e = .returned v ∧ (v = V ∧ Bl W.heap.size W W') := hc.mono fun e W' ⟨v, he, hv, hT⟩ => ⟨v, he, hv, hT.below⟩
end
section
variable {P : Program} {a : Act} {W : World} {n : Nat} {L : List (Nat × Value)}
theorem v_makeFunc (hF : FH n L a) {F : FuncId} {xs : List Operand} {vs : List Value} (hx : lkA L xs = some vs) : Val P a W (.makeFunc (.func F) #[] xs.toArray) (.func (.func F) #[] vs.toArray) := fun d ty pos af g => by
  have := lkA_map hF xs vs hx
  simp [execOp, ← this, Instr.makeFunc]
end
end Go.Pod
