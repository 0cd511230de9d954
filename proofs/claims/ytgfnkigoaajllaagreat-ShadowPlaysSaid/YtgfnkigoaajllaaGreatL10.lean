/- Plain words for walks: the last small laws. Nothing of the program in it. -/
import Derived.Test.YtgfnkigoaajllaaGreatL9
set_option linter.unusedVariables false
set_option linter.unusedSimpArgs false
namespace Go.Pod
open Go.RowKit
def atA {n : Nat} {β : Type} (d : β) (f : Fin n → β) (i : Int) : β := if h : i.toNat < n then f ⟨i.toNat, h⟩ else d
theorem allOne {cs : List Value} (h : cs.all (·.oneCell') = true) : ∀ u ∈ cs, u.oneCell' = true := fun u hu => (List.all_eq_true.1 h) u hu
theorem one1 {v : Value} (h : v.oneCell' = true) : ∀ u ∈ [v], u.oneCell' = true := fun u hu => by rcases List.mem_singleton.1 hu with rfl; exact h
theorem cell1 {cs : List Value} {o : Nat} {v : Value} (h : (cs.drop o).take 1 = [v]) : cs[o]? = some v := by
  have := congrArg (fun l => l[0]?) h
  simpa [List.getElem?_take, List.getElem?_drop] using this
theorem Src.nil {α : Type} (κ : Kd α) (M : Nat → Prop) (W : World) : Src κ M W none ([] : List α) := ⟨[], Els.nil _ _ _, fun a h => by (cases h), fun _ => rfl⟩
theorem Els.cons {α : Type} {κ : Kd α} {M : Nat → Prop} {W : World} {cs : List Value} {x : α} {css : List (List Value)} {xs : List α} (h : κ.R M W cs x) (k : Els κ M W css xs) : Els κ M W (cs :: css) (x :: xs) := by
  have := (Els.one1 h).append k
  simpa using this
theorem SlR.clip {α : Type} {κ : Kd α} {M : Nat → Prop} {W : World} {A : Option Addr} {c : Nat} {xs : List α} (h : SlR κ M W A c xs) : SlR κ M W A xs.length xs :=
  ⟨Nat.le_refl _, Nat.le_trans h.1 h.2.1, fun hA => ⟨(h.2.2.1 hA).1, by rw [(h.2.2.1 hA).1]; rfl⟩, h.2.2.2⟩
theorem Row.ok.cap {r : Row} {base : Nat} {M : Nat → Prop} {W : World} (h : r.ok base M W) : r.xs.length ≤ r.c := by obtain ⟨_, _, ho⟩ := h; exact ho.caps.1
section
variable {M0 : Nat → Prop} {w0 : World} {bs : List Box} {rs : List Row} {fs : List Fact} {W W' : World}
theorem St.clipRow {α : Type} {κ : Kd α} {E : TypeId} {A : Option Addr} {c : Nat} {xs : List α} (h : St M0 w0 bs rs fs W) {i : Nat} (hi : rs[i]? = some ⟨κ, E, A, c, xs⟩) : St M0 w0 bs (rs.set i ⟨κ, E, A, xs.length, xs⟩) fs W := by
  obtain ⟨css, he, ho⟩ := h.row _ (List.mem_of_getElem? hi)
  refine h.set_row hi _ ⟨rfl, rfl, rfl, Nat.le_refl _, fun _ _ _ => rfl⟩ (Nat.le_refl _) css he ⟨ho.1, ?_⟩ (fun k hk => .inl hk)
  rcases ho.2 with ⟨h1, h2, h3⟩ | ⟨g, cur, fr, hA, hb, hg, h1, h2, h3, h4, h5⟩
  · exact .inl ⟨h1, h3, h3⟩
  · exact .inr ⟨g, cur, fr, hA, hb, hg, Nat.le_refl _, Nat.le_trans h1 h2, Nat.le_trans (Nat.mul_le_mul_right _ h1) h3, h4, h5⟩
theorem q_of2 {P : Program} {M1 : Nat → Prop} {f : FuncId} {vs : Array Value} {V : Value} (hC : QC M0 w0 bs rs fs W W') (hc : Calls P f vs W' fun e W'' => ∃ v, e = .returned v ∧ (v = V ∧ St M1 W' [] [] [] W'')) :
    Calls P f vs W' fun e W'' => e = .returned V ∧ QC M0 w0 bs rs fs W W'' :=
  hc.mono fun e W'' ⟨v, he, hv, hT⟩ => ⟨by rw [he, hv], hC.next hT.below⟩
end
section
variable {P : Program} {a : Act} {W : World} {n : Nat} {L : List (Nat × Value)}
theorem v_convS (hF : FH n L a) {S T : TypeId} {x : Operand} {b : ByteArray} (hx : lkO L x = some (.string b)) (hS : P.underlying S = some .string) (hT : P.underlying T = some .string) : Val P a W (.convert S T x) (.string b) := fun d ty pos af g => by
  simp [execOp, hF.ev hx, convert, run_underlying hS, run_underlying hT]
end
end Go.Pod
