/- The count of draws never falls. Nothing of the program in it. -/
import Derived.WalkKit
set_option linter.unusedVariables false
set_option linter.unusedSimpArgs false
namespace Go.Pod
open Go.RowKit
theorem ask_drawn {α : Type} : ∀ (k : Ask α) (w : World), w.drawn ≤ (w.ask k).2.drawn
  | .done a, w => Nat.le_refl _
  | .ask what range k, w => by
    unfold World.ask
    dsimp only
    split
    · exact ask_drawn _ w
    · exact Nat.le_trans (Nat.le_succ _) (ask_drawn _ { w with drawn := w.drawn + 1 })
theorem sys_drawn (w : World) (c : Sys) : w.drawn ≤ (w.sys c).2.drawn := by
  unfold World.sys
  have := ask_drawn (Kernel.perform c w.os) w
  generalize w.ask (Kernel.perform c w.os) = r at *
  obtain ⟨⟨a, b⟩, w'⟩ := r
  cases a <;> first | exact Nat.le_refl _ | exact this
theorem run_drawn {P : Program} {α : Type} : ∀ (m : Sem α) (w : World) (a : α) (w' : World), m.run P w = .ok a w' → w.drawn ≤ w'.drawn := by
  intro m
  induction m with
  | pure a => intro w a' w' h; cases h; exact Nat.le_refl _
  | load m a k ih =>
    intro w x w' h
    unfold Sem.run at h
    split at h
    · exact ih _ w x w' h
    · split at h
      · exact ih _ w x w' h
      · cases h
  | store m a v k ih =>
    intro w x w' h
    have hfar : ∀ r, w.farStore P a v (m == .atomic) = .ok r → r.1.drawn = w.drawn := fun r hr => by
      unfold World.farStore at hr
      split at hr
      · split at hr
        · rename_i hv
          cases hr
          unfold World.viewStore at hv
          revert hv
          simp only [bind, Except.bind, pure, Except.pure, throw, throwThe, MonadExceptOf.throw]
          intro hv
          repeat' (split at hv)
          all_goals first | (cases hv; done) | (cases hv; rfl)
        · cases hr
      · cases hr
    cases v <;> first | (simp only [Sem.run] at h; cases h; done) | skip
    all_goals
      unfold Sem.run at h
      split at h
      · split at h
        · cases h
        · have := ih _ x w' h; exact this
      · split at h
        · rename_i hr
          have := ih _ x w' h
          rw [hfar _ hr] at this
          exact this
        · cases h
  | new o k ih => intro w x w' h; unfold Sem.run at h; have := ih _ _ x w' h; exact this
  | shape r k ih => intro w x w' h; exact ih _ _ x w' h
  | freeze a n k ih =>
    intro w x w' h
    unfold Sem.run at h
    have := ih _ x w' h
    have e : (w.freeze a n).drawn = w.drawn := by unfold World.freeze; split <;> rfl
    rwa [e] at this
  | frozen a k ih => intro w x w' h; exact ih _ _ x w' h
  | getObj r k ih =>
    intro w x w' h
    unfold Sem.run at h
    split at h
    · cases h
    · exact ih _ _ x w' h
    · cases h
  | setObj r o k ih =>
    intro w x w' h
    unfold Sem.run at h
    split at h
    · cases h
    · have := ih _ x w' h; exact this
    · cases h
  | choose q k ih =>
    intro w x w' h
    unfold Sem.run at h
    split at h
    · exact ih _ _ x w' h
    · exact Nat.le_trans (Nat.le_succ _) (ih _ _ x w' h)
  | sys c k ih => intro w x w' h; exact Nat.le_trans (sys_drawn w c) (ih _ _ x w' h)
  | program k ih => intro w x w' h; exact ih _ _ x w' h
  | mark m k ih => intro w x w' h; exact ih _ x w' h
  | halt h => intro w x w' h; cases h
/-- Below B nothing has turned, and the draws have not fallen. -/
structure Bl (B : Nat) (w w' : World) : Prop where
  to : Below B w w'
  drw : w.drawn ≤ w'.drawn
theorem Bl.refl (B : Nat) (w : World) : Bl B w w := ⟨Below.refl _ _, Nat.le_refl _⟩
theorem Bl.trans {B : Nat} {a b c : World} (h : Bl B a b) (k : Bl B b c) : Bl B a c := ⟨h.to.trans k.to, Nat.le_trans h.drw k.drw⟩
theorem Bl.mono {B B' : Nat} {w w' : World} (h : Bl B w w') (hB : B' ≤ B) : Bl B' w w' := ⟨h.to.mono hB, h.drw⟩
theorem Bl.drew {B : Nat} {a w : World} (h : Bl B a w) : Bl B a w.drew := ⟨h.to.drew, Nat.le_trans h.drw (Nat.le_succ _)⟩
theorem Bl.alloc {B : Nat} {a w : World} (h : Bl B a w) (hB : B ≤ w.heap.size) (o : Obj) : Bl B a (w.alloc o) := ⟨h.to.alloc hB o, h.drw⟩
theorem Bl.grown {B : Nat} {a w w' : World} {row : Option Nat} (h : Bl B a w) (hg : w.grownBy w' row) (hd : w.drawn ≤ w'.drawn) (hB : B ≤ w.heap.size) (hr : ∀ k, row = some k → B ≤ k) : Bl B a w' := ⟨h.to.grown hg hB hr, Nat.le_trans h.drw hd⟩
theorem Bl.size {B : Nat} {w w' : World} (h : Bl B w w') : w.heap.size ≤ w'.heap.size := h.to.size
theorem Bl.block {B : Nat} {w w' : World} (h : Bl B w w') : ∀ k, k < B → w'.heap[k]? = w.heap[k]? := h.to.block
theorem Bl.os {B : Nat} {w w' : World} (h : Bl B w w') : w'.os = w.os := h.to.os
theorem Bl.output {B : Nat} {w w' : World} (h : Bl B w w') : w'.output = w.output := h.to.output
end Go.Pod
