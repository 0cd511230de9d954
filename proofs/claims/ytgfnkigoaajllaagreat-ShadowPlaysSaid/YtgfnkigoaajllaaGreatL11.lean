/- Plain words for walks: regions that draw their order and hold operations that change the world: what does not hang on the changes is taken first; one condition on the world holds until an 'ender' comes up, which waits for all that lean on the condition. Nothing of the program in it. -/
import Derived.Test.YtgfnkigoaajllaaGreatL10
set_option linter.unusedVariables false
set_option linter.unusedSimpArgs false
namespace Go.Pod
open Go.RowKit

section
variable {P : Program} {ops : Array Oper} {Q : Exit → Act → World → Prop} {md : Region.Mode} {S : World → Prop} {E : Nat → Bool}
/-- Whatever order is picked from here on; every operation that is no ender keeps S. -/
def wpAnyE (P : Program) (md : Region.Mode) (ops : Array Oper) (Q : Exit → Act → World → Prop) (S : World → Prop) (E : Nat → Bool) : Nat → Array Bool → Act → World → Prop
  | 0, listed, a, w => Region.ready md ops listed = [] ∧ Q .normal a w
  | fuel + 1, listed, a, w =>
    (Region.ready md ops listed = [] → Q .normal a w) ∧
    ∀ i ∈ Region.ready md ops listed, wpOp P ops Q i (fun a' w' => (S w → E i = false → S w') ∧ wpAnyE P md ops Q S E fuel (listed.setIfInBounds i true) a' w') a w
theorem wpAny_of_e : ∀ (fuel : Nat) (listed : Array Bool) (a : Act) (w : World), wpAnyE P md ops Q S E fuel listed a w → wpAny P md ops Q fuel listed a w
  | 0, _, _, _, h => h
  | fuel + 1, _, _, _, h => ⟨h.1, fun i hi => wpOp_mono (fun a' w' h' => wpAny_of_e fuel _ a' w' h'.2) (h.2 i hi)⟩

theorem wpAnyE_first {S' : World → Prop} {i : Nat} {oi : Oper} {v : Value} (hi : ops[i]? = some oi) (hsel : ∀ (j : Nat) (o : Oper) cs b, ops[j]? = some o → o.op ≠ .select cs b)
    (hQ : ∀ c a w, Q (.panic c) (a.put oi.dst v) w → Q (.panic c) a w) :
    ∀ (fuel : Nat) (listed : Array Bool) (a : Act) (w : World),
      (∀ j oj, ops[j]? = some oj → j ≠ i → listed.getD j true = false → (∀ e ∈ oj.after, Region.binds md e = true → e.on ≠ i) → oi.apart ops oj = true) →
      i ∈ Region.ready md ops listed → YieldsIf P ops S' oi v a →
      ((∀ w, S' w) ∨ ((∀ w, S w → S' w) ∧ S w ∧ ∀ j oj, ops[j]? = some oj → j ≠ i → listed.getD j true = false → E j = true → ∃ e ∈ oj.after, Region.binds md e = true ∧ e.on = i)) →
      wpAnyE P md ops Q S E fuel (listed.setIfInBounds i true) (a.put oi.dst v) w → wpAnyE P md ops Q S E (fuel + 1) listed a w := by
  intro fuel
  induction fuel with
  | zero =>
    intro listed a w _ hr hy hS H
    have hS1 : S' w := hS.elim (fun h => h w) (fun h => h.1 w h.2.1)
    refine ⟨fun h => (by rw [h] at hr; cases hr), fun j hj => ?_⟩
    by_cases hji : j = i
    · subst hji; exact hy.wpOp hi hS1 ⟨fun h _ => h, H⟩
    · have := ready_mono hj hji
      rw [H.1] at this
      cases this
  | succ fuel ih =>
    intro listed a w hfree hr hy hS H
    have hS1 : S' w := hS.elim (fun h => h w) (fun h => h.1 w h.2.1)
    refine ⟨fun h => (by rw [h] at hr; cases hr), fun j hj => ?_⟩
    by_cases hji : j = i
    · subst hji; exact hy.wpOp hi hS1 ⟨fun h _ => h, H⟩
    · have h1 := H.2 j (ready_mono hj hji)
      obtain ⟨hjun, oj, hoj, hall⟩ := mem_ready.1 hj
      have hnot : ∀ e ∈ oj.after, Region.binds md e = true → e.on ≠ i := fun e he hb heq => by
        have h1 := hall e he hb
        have h0 := (mem_ready.1 hr).1
        rw [heq] at h1
        rcases Nat.lt_or_ge i listed.size with h' | h'
        · simp [h'] at h0 h1; rw [h0] at h1; cases h1
        · simp [Array.getElem?_eq_none h'] at h1
      have h2 := wpOp_putIf hoj (hfree j oj hoj hji hjun hnot) (fun cs b => hsel i oi cs b hi) (fun cs b => hsel j oj cs b hoj) hQ hy h1
      have hfree' : ∀ k ok, ops[k]? = some ok → k ≠ i → (listed.setIfInBounds j true).getD k true = false →
          (∀ e ∈ ok.after, Region.binds md e = true → e.on ≠ i) → oi.apart ops ok = true := fun k ok hk hki hun hno => by
        refine hfree k ok hk hki ?_ hno
        by_cases hjk : j = k
        · subst hjk; exact hjun
        · rw [getD_set_ne true hjk] at hun; exact hun
      refine wpOp_mono (fun a' w' h3 => ⟨h3.2.1, ih (listed.setIfInBounds j true) a' w' hfree' (ready_mono hr (Ne.symm hji)) h3.1 ?_ ?_⟩) h2
      · rcases hS with hS | ⟨h4, h5, h6⟩
        · exact .inl hS
        · refine .inr ⟨h4, h3.2.1 h5 ?_, fun k ok hk hki hun hE => h6 k ok hk hki ?_ hE⟩
          · cases hE : E j with
            | false => rfl
            | true =>
              obtain ⟨e, he, hb, heq⟩ := h6 j oj hoj hji hjun hE
              exact absurd heq (hnot e he hb)
          · by_cases hjk : j = k
            · subst hjk; exact hjun
            · rw [getD_set_ne true hjk] at hun; exact hun
      · rw [Array.setIfInBounds_comm _ _ hji]
        exact h3.2.2
end

theorem nB {b : Bool} (h : ¬ b = true) : b = false := Bool.eq_false_iff.2 h
theorem posB {n : Nat} (h : Nat.ble 1 n = true) : 0 < n := Nat.le_of_ble_eq_true h
/-- All enders that are to come wait for number i. -/
def waitE (E : Nat → Bool) (ops : Array Oper) (listed : Array Bool) (i : Nat) : Bool :=
  (List.range ops.size).all fun j => j == i || listed.getD j true || !E j || match ops[j]? with
    | some oj => oj.after.any (fun e => Region.binds .any e && e.on == i)
    | none => true
theorem waitE_spec {E : Nat → Bool} {ops : Array Oper} {listed : Array Bool} {i : Nat} (h : waitE E ops listed i = true) (j : Nat) (oj : Oper) (hj : ops[j]? = some oj) (hne : j ≠ i) (hun : listed.getD j true = false) (hE : E j = true) :
    ∃ e ∈ oj.after, Region.binds .any e = true ∧ e.on = i := by
  unfold waitE at h
  rw [List.all_eq_true] at h
  have h1 := h j (List.mem_range.2 (Array.getElem?_eq_some_iff.1 hj).1)
  rw [hj, hun, hE] at h1
  simp only [beq_iff_eq, hne, Bool.or_false, Bool.not_true, Bool.false_or, Bool.or_eq_true] at h1
  rcases h1 with h1 | h1
  · simp at h1
  · obtain ⟨e, he, hb⟩ := Array.any_eq_true'.1 h1
    simp only [Bool.and_eq_true, beq_iff_eq] at hb
    exact ⟨e, he, hb⟩

section
variable {P : Program} {l : List Oper} {Q : Exit → Act → World → Prop} {S : World → Prop} {E : Nat → Bool} {a : Act} {W : World} {n : Nat} {L : List (Nat × Value)} {fuel : Nat} {listed listed' : Array Bool}
  {d : Nat} {op : Op} {ty : TypeId} {pos : String} {af : Array Edge} {g : Option (Nat × Bool)} {v : Value} {o : Oper}
/-- May be taken first. -/
def canTake (l : List Oper) (listed : Array Bool) (i : Nat) : Bool := Region.noSelect l.toArray && Region.free .any l.toArray listed i && (Region.ready .any l.toArray listed).contains i
theorem e_take {S' : World → Prop} (i : Nat) (hi : l[i]? = some o) (hc : canTake l listed i = true) (hl : listed.setIfInBounds i true = listed')
    (hQ : ∀ c a w, Q (.panic c) (a.put o.dst v) w → Q (.panic c) a w) (hy : YieldsIf P l.toArray S' o v a)
    (hS : (∀ w, S' w) ∨ ((∀ w, S w → S' w) ∧ S W ∧ waitE E l.toArray listed i = true))
    (h : wpAnyE P .any l.toArray Q S E fuel listed' (a.put o.dst v) W) : wpAnyE P .any l.toArray Q S E (fuel + 1) listed a W := by
  unfold canTake at hc
  simp only [Bool.and_eq_true] at hc
  obtain ⟨⟨h1, h2⟩, h3⟩ := hc
  have hi' : l.toArray[i]? = some o := by simpa using hi
  exact wpAnyE_first hi' (Region.noSelect_spec h1) hQ fuel listed a W (Region.free_spec hi' h2) (by simpa using h3) hy (hS.imp id fun ⟨a, b, c⟩ => ⟨a, b, waitE_spec c⟩) (hl ▸ h)
/-- A value that is the same in whatever world. -/
theorem e_val (i : Nat) (hi : l[i]? = some ⟨some d, op, ty, pos, af, none⟩) (hc : canTake l listed i = true) (hl : listed.setIfInBounds i true = listed')
    (hQ : ∀ c a w, Q (.panic c) (a.put (some d) v) w → Q (.panic c) a w) (hv : ∀ W, Val P a W op v) (hF : FH n L a) (hd : d < n)
    (K : ∀ a, FH n ((d, v) :: L) a → wpAnyE P .any l.toArray Q S E fuel listed' a W) : wpAnyE P .any l.toArray Q S E (fuel + 1) listed a W :=
  e_take (S' := fun _ => True) i hi hc hl hQ (yields_if fun W _ => hv W) (.inl fun _ => trivial) (K _ (hF.put hd v))
/-- A value that is the same in the worlds of S. -/
theorem e_valS (i : Nat) (hi : l[i]? = some ⟨some d, op, ty, pos, af, none⟩) (hc : canTake l listed i = true) (hl : listed.setIfInBounds i true = listed')
    (hQ : ∀ c a w, Q (.panic c) (a.put (some d) v) w → Q (.panic c) a w) (hv : ∀ W, S W → Val P a W op v) (hS : S W) (hE : waitE E l.toArray listed i = true) (hF : FH n L a) (hd : d < n)
    (K : ∀ a, FH n ((d, v) :: L) a → wpAnyE P .any l.toArray Q S E fuel listed' a W) : wpAnyE P .any l.toArray Q S E (fuel + 1) listed a W :=
  e_take (S' := S) i hi hc hl hQ (yields_if hv) (.inr ⟨fun _ h => h, hS, hE⟩) (K _ (hF.put hd v))
theorem yields_yes {S' : World → Prop} {j : Nat} {want : Bool} {t : Nat} {b : Bool} (hF : FH n L a) (ht : ((l.toArray[j]?).bind (·.dst)) = some t) (hb : lk t L = some (.bool b)) (he : b = want) (hv : ∀ W, S' W → Val P a W op v) :
    YieldsIf P l.toArray S' ⟨some d, op, ty, pos, af, some (j, want)⟩ v a := .inl ⟨by rw [wanted_at hF rfl ht hb, he]; simp, fun w hw => hv w hw _ _ _ _ _⟩
/-- The same under a guard that says yes. -/
theorem e_valG (i : Nat) {j : Nat} {want : Bool} {t : Nat} {b : Bool} (hi : l[i]? = some ⟨some d, op, ty, pos, af, some (j, want)⟩) (hc : canTake l listed i = true) (hl : listed.setIfInBounds i true = listed')
    (hQ : ∀ c a w, Q (.panic c) (a.put (some d) v) w → Q (.panic c) a w) (ht : ((l[j]?).bind (·.dst)) = some t) (hb : lk t L = some (.bool b)) (he : b = want) (hv : ∀ W, Val P a W op v) (hF : FH n L a) (hd : d < n)
    (K : ∀ a, FH n ((d, v) :: L) a → wpAnyE P .any l.toArray Q S E fuel listed' a W) : wpAnyE P .any l.toArray Q S E (fuel + 1) listed a W :=
  e_take (S' := fun _ => True) i hi hc hl hQ (yields_yes hF (by simpa using ht) hb he fun W _ => hv W) (.inl fun _ => trivial) (K _ (hF.put hd v))
theorem e_valGS (i : Nat) {j : Nat} {want : Bool} {t : Nat} {b : Bool} (hi : l[i]? = some ⟨some d, op, ty, pos, af, some (j, want)⟩) (hc : canTake l listed i = true) (hl : listed.setIfInBounds i true = listed')
    (hQ : ∀ c a w, Q (.panic c) (a.put (some d) v) w → Q (.panic c) a w) (ht : ((l[j]?).bind (·.dst)) = some t) (hb : lk t L = some (.bool b)) (he : b = want) (hv : ∀ W, S W → Val P a W op v) (hS : S W) (hE : waitE E l.toArray listed i = true) (hF : FH n L a) (hd : d < n)
    (K : ∀ a, FH n ((d, v) :: L) a → wpAnyE P .any l.toArray Q S E fuel listed' a W) : wpAnyE P .any l.toArray Q S E (fuel + 1) listed a W :=
  e_take (S' := S) i hi hc hl hQ (yields_yes hF (by simpa using ht) hb he hv) (.inr ⟨fun _ h => h, hS, hE⟩) (K _ (hF.put hd v))
/-- A guard that says no. -/
theorem e_no (i : Nat) {j : Nat} {want : Bool} {t : Nat} {b : Bool} (hi : l[i]? = some ⟨some d, op, ty, pos, af, some (j, want)⟩) (hc : canTake l listed i = true) (hl : listed.setIfInBounds i true = listed')
    (hQ : ∀ c a w, Q (.panic c) (a.put (some d) undef) w → Q (.panic c) a w) (ht : ((l[j]?).bind (·.dst)) = some t) (hb : lk t L = some (.bool b)) (he : b = !want) (hF : FH n L a) (hd : d < n)
    (K : ∀ a, FH n ((d, undef) :: L) a → wpAnyE P .any l.toArray Q S E fuel listed' a W) : wpAnyE P .any l.toArray Q S E (fuel + 1) listed a W :=
  e_take (S' := fun _ => True) i hi hc hl hQ (.inr ⟨by rw [wanted_at hF rfl (by simpa using ht) hb, he]; cases want <;> simp, rfl⟩) (.inl fun _ => trivial) (K _ (hF.put hd undef))
theorem wanted_no2 {ops : Array Oper} {j : Nat} {want : Bool} {t : Nat} (hF : FH n L a) (ht : ((ops[j]?).bind (·.dst)) = some t) (hb : lk t L = some undef) :
    Region.wanted (⟨some d, op, ty, pos, af, some (j, want)⟩ : Oper) (yielded ops a.tmps) = false := by
  have := hF.get t _ hb
  simp [Region.wanted, yielded, ht, this, undef]
theorem e_no2 (i : Nat) {j : Nat} {want : Bool} {t : Nat} (hi : l[i]? = some ⟨some d, op, ty, pos, af, some (j, want)⟩) (hc : canTake l listed i = true) (hl : listed.setIfInBounds i true = listed')
    (hQ : ∀ c a w, Q (.panic c) (a.put (some d) undef) w → Q (.panic c) a w) (ht : ((l[j]?).bind (·.dst)) = some t) (hb : lk t L = some undef) (hF : FH n L a) (hd : d < n)
    (K : ∀ a, FH n ((d, undef) :: L) a → wpAnyE P .any l.toArray Q S E fuel listed' a W) : wpAnyE P .any l.toArray Q S E (fuel + 1) listed a W :=
  e_take (S' := fun _ => True) i hi hc hl hQ (.inr ⟨wanted_no2 hF (by simpa using ht) hb, rfl⟩) (.inl fun _ => trivial) (K _ (hF.put hd undef))
/-- The only one that may come up. -/
theorem e_one (i : Nat) (hi : l[i]? = some o) (hr : Region.ready .any l.toArray listed = [i]) (hl : listed.setIfInBounds i true = listed')
    (h : wpList P l.toArray (Exit.then (fun a' w' => (S W → E i = false → S w') ∧ wpAnyE P .any l.toArray Q S E fuel listed' a' w') Q) [o] a W) : wpAnyE P .any l.toArray Q S E (fuel + 1) listed a W :=
  ⟨fun h0 => (by rw [hr] at h0; cases h0), fun k hk => (by
    rw [hr] at hk
    have : k = i := by simpa using hk
    subst this
    rw [hl]
    exact op_list (by simpa using hi) h)⟩
/-- Several that may come up. -/
def AllR (P : Program) (l : List Oper) (Q : Exit → Act → World → Prop) (S : World → Prop) (E : Nat → Bool) (fuel : Nat) (listed : Array Bool) (a : Act) (W : World) : List Nat → Prop
  | [] => True
  | i :: is => (∃ o, l[i]? = some o ∧ wpList P l.toArray (Exit.then (fun a' w' => (S W → E i = false → S w') ∧ wpAnyE P .any l.toArray Q S E fuel (listed.setIfInBounds i true) a' w') Q) [o] a W) ∧ AllR P l Q S E fuel listed a W is
theorem AllR.get : ∀ {is : List Nat}, AllR P l Q S E fuel listed a W is → ∀ i ∈ is, wpOp P l.toArray Q i (fun a' w' => (S W → E i = false → S w') ∧ wpAnyE P .any l.toArray Q S E fuel (listed.setIfInBounds i true) a' w') a W
  | j :: is, h, i, hi => by
    rcases List.mem_cons.1 hi with rfl | hi
    · obtain ⟨o, ho, hw⟩ := h.1
      exact op_list (by simpa using ho) hw
    · exact AllR.get h.2 i hi
theorem e_many (rs : List Nat) (hr : Region.ready .any l.toArray listed = rs) (hne : rs ≠ []) (h : AllR P l Q S E fuel listed a W rs) : wpAnyE P .any l.toArray Q S E (fuel + 1) listed a W :=
  ⟨fun h0 => absurd (hr ▸ h0) hne, fun k hk => h.get k (hr ▸ hk)⟩
/-- The list of those that have come up, in another writing. -/
theorem e_listed (hl : listed = listed') (h : wpAnyE P .any l.toArray Q S E fuel listed' a W) : wpAnyE P .any l.toArray Q S E fuel listed a W := hl ▸ h
theorem e_done (hr : Region.ready .any l.toArray listed = []) (h : Q .normal a W) : ∀ fuel, wpAnyE P .any l.toArray Q S E fuel listed a W
  | 0 => ⟨hr, h⟩
  | _ + 1 => ⟨fun _ => h, by rw [hr]; simp⟩
end
section
variable {M0 : Nat → Prop} {w0 : World} {bs : List Box} {rs : List Row} {fs : List Fact} {W : World}
/-- Boxes and rows in another order. -/
theorem St.perm {bs' : List Box} {rs' : List Row} (h : St M0 w0 bs rs fs W) (hb : List.Perm bs bs') (hr : List.Perm rs rs') : St M0 w0 bs' rs' fs W := by
  have hM : Mut M0 bs' rs' = Mut M0 bs rs := funext fun k => propext (by
    unfold Mut
    simp only [hb.mem_iff, hr.mem_iff])
  refine ⟨h.valid, h.below, fun x hx => h.box x (hb.mem_iff.2 hx), fun r hx => ?_, ?_, ?_, fun x hx r hr' => h.brd x (hb.mem_iff.2 hx) r (hr.mem_iff.2 hr'), fun f hf => ?_⟩
  · rw [hM]; exact h.row r (hr.mem_iff.2 hx)
  · exact (hb.map _).nodup_iff.1 h.bnd
  · exact (hr.pairwise_iff fun h k h1 h2 => h k h2 h1).1 h.rnd
  · rw [hM]; exact h.fact f hf
/-- The beginning. -/
theorem wp_drawn {P : Program} {id : Nat} {l : List Oper} {Q : Exit → Act → World → Prop} {a : Act} (S : World → World → Prop) (E : Nat → Bool) (hm : P.follows .mixedOrders = true) (hS : St M0 w0 bs rs fs W)
    (h : ∀ W', Bl W.heap.size W W' → St M0 w0 bs rs fs W' → wpAnyE P .any l.toArray Q (S W') E l.length (Array.replicate l.length false) a W') : (Code.region id l.toArray true).wp P Q a W :=
  wp_region_any hm (wpAny_of_e _ _ _ _ (h _ ((Bl.refl _ _).drew) (hS.grow ((Bl.refl _ _).drew))))
end
end Go.Pod
