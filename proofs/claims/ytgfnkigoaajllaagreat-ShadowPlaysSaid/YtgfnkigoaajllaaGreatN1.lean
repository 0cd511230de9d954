/- Plain laws on what goes from a table and what comes: it can be undone. -/
import Derived.Test.YtgfnkigoaajllaaGreatM5
set_option linter.unusedVariables false
set_option linter.unusedSimpArgs false
set_option maxRecDepth 100000
namespace Go.Proofs.YtgfnkigoaajllaaGreat
open Go.RowKit Go.Pod

theorem TabOK.sub {l l' : List TRule} (h : TabOK l) (s : l'.Sublist l) : TabOK l' := ⟨fun r hr => h.1 r (s.subset hr), h.2.sublist s⟩
theorem beB_asymm {a b : TRule} (h : beB a b = true) : beB b a = false := by
  cases h2 : beB b a
  · rfl
  · have := beB_trans h h2
    rw [beB_irrefl] at this; cases this
/-- Two tables of the same rules are one. -/
theorem tab_one : ∀ (xs ys : List TRule), xs.Pairwise (fun a b => beB a b = true) → ys.Pairwise (fun a b => beB a b = true) → (∀ x, x ∈ xs ↔ x ∈ ys) → xs = ys
  | [], ys, _, _, h => by
    cases ys with
    | nil => rfl
    | cons y ys => exact absurd ((h y).2 (by simp)) (by simp)
  | x :: xs, [], _, _, h => absurd ((h x).1 (by simp)) (by simp)
  | x :: xs, y :: ys, h1, h2, h => by
    rw [List.pairwise_cons] at h1 h2
    have e : x = y := by
      rcases List.mem_cons.1 ((h x).1 (by simp)) with h3 | h3
      · exact h3
      · rcases List.mem_cons.1 ((h y).2 (by simp)) with h4 | h4
        · exact h4.symm
        · have h5 := h1.1 _ h4
          have h6 := h2.1 _ h3
          rw [beB_asymm h5] at h6; cases h6
    subst e
    rw [tab_one xs ys h1.2 h2.2]
    intro z
    constructor
    · intro hz
      rcases List.mem_cons.1 ((h z).1 (List.mem_cons_of_mem _ hz)) with h3 | h3
      · subst h3
        have := h1.1 _ hz
        rw [beB_irrefl] at this; cases this
      · exact h3
    · intro hz
      rcases List.mem_cons.1 ((h z).2 (List.mem_cons_of_mem _ hz)) with h3 | h3
      · subst h3
        have := h2.1 _ hz
        rw [beB_irrefl] at this; cases this
      · exact h3
theorem keyB_refl (a : TRule) : keyB a a = true := keyB_iff.2 ⟨rfl, rfl⟩
theorem tab_key {l : List TRule} (h : TabOK l) {x y : TRule} (hx : x ∈ l) (hy : y ∈ l) (hk : keyB x y = true) : x = y := by
  obtain ⟨i, hi, rfl⟩ := List.mem_iff_getElem.1 hx
  obtain ⟨j, hj, rfl⟩ := List.mem_iff_getElem.1 hy
  have := key_one h.2 hi hj hk (keyB_refl _)
  subst this; rfl
theorem putAt_set {out : List TRule} {c : TRule} {p : Nat} (h : ∀ x ∈ out, keyB x c = false) (x : TRule) : x ∈ putAt out c p ↔ x ∈ out ∨ x = c := by
  have ht : tailAt out c p = out.drop p := by
    unfold tailAt
    have : (out[p]?).any (fun x => keyB x c) = false := by
      cases hp : out[p]? with
      | none => rfl
      | some y => rw [Option.any_some]; exact h y (List.mem_of_getElem? hp)
    rw [this]; rfl
  unfold putAt
  rw [ht, List.mem_append, List.mem_append, List.mem_singleton]
  conv => rhs; rw [← List.take_append_drop p out, List.mem_append]
  constructor
  · rintro ((h | h) | h)
    · exact .inl (.inl h)
    · exact .inr h
    · exact .inl (.inr h)
  · rintro ((h | h) | h)
    · exact .inl (.inl h)
    · exact .inr h
    · exact .inl (.inr h)
theorem sortF_set : ∀ (l out : List TRule), TabOK out → (∀ c ∈ l, ruleB c = true) → (∀ c ∈ l, ∀ x ∈ out, keyB x c = false) → l.Pairwise (fun a b => keyB a b = false) → ∀ x, x ∈ sortF l out ↔ x ∈ out ∨ x ∈ l
  | [], out, _, _, _, _, x => by simp [sortF]
  | c :: cs, out, ht, hr, hk, hp, x => by
    rw [List.pairwise_cons] at hp
    rw [sortF, hr c (by simp), if_pos rfl, sortF_set cs _ (putAt_ok ht (hr c (by simp)) (part_pos0 out c)) (fun d hd => hr d (List.mem_cons_of_mem _ hd)) (fun d hd y hy => ?_) hp.2, putAt_set (hk c (by simp)), List.mem_cons, or_assoc]
    rcases putAt_mem hy with h | h
    · exact hk d (List.mem_cons_of_mem _ hd) y h
    · subst h; exact hp.1 d hd
/-! ### Just the same rule -/
noncomputable def eqB (a b : TRule) : Bool := @decide (a = b) (Classical.propDecidable _)
theorem eqB_iff {a b : TRule} : eqB a b = true ↔ a = b := by
  unfold eqB
  exact @decide_eq_true_iff _ (Classical.propDecidable _)
noncomputable def aloneL (a b : List TRule) : List TRule := a.filter fun r => !(b.any fun x => eqB r x)
theorem aloneL_mem {a b : List TRule} {x : TRule} : x ∈ aloneL a b ↔ x ∈ a ∧ ¬ x ∈ b := by
  unfold aloneL
  rw [List.mem_filter, Bool.not_eq_true', List.any_eq_false]
  constructor
  · rintro ⟨h1, h2⟩
    exact ⟨h1, fun h => h2 x h (eqB_iff.2 rfl)⟩
  · rintro ⟨h1, h2⟩
    exact ⟨h1, fun y hy he => h2 (by rw [eqB_iff.1 he]; exact hy)⟩
theorem aloneL_sub (a b : List TRule) : (aloneL a b).Sublist a := List.filter_sublist
theorem aloneL_nil {a b : List TRule} (h : ∀ x ∈ a, x ∈ b) : aloneL a b = [] := by
  rw [List.eq_nil_iff_forall_not_mem]
  intro x hx
  obtain ⟨h1, h2⟩ := aloneL_mem.1 hx
  exact h2 (h x h1)
theorem gone_nil (a b : List TRule) : aloneL (aloneL a b) a = [] := aloneL_nil fun x hx => (aloneL_mem.1 hx).1
theorem stay_mem {a b : List TRule} {x : TRule} : x ∈ aloneL b (aloneL b a) ↔ x ∈ b ∧ x ∈ a := by
  rw [aloneL_mem, aloneL_mem]
  constructor
  · rintro ⟨h1, h2⟩
    exact ⟨h1, Classical.byContradiction fun h => h2 ⟨h1, h⟩⟩
  · rintro ⟨h1, h2⟩
    exact ⟨h1, fun h => h.2 h2⟩
/-- None of those that come has the key of one that stays. -/
theorem no_clash {a b : List TRule} (ha : TabOK a) {r x : TRule} (hr : r ∈ aloneL a b) (hx : x ∈ aloneL b (aloneL b a)) : keyB x r = false := by
  cases h : keyB x r
  · rfl
  · exfalso
    obtain ⟨h1, h2⟩ := aloneL_mem.1 hr
    obtain ⟨h3, h4⟩ := stay_mem.1 hx
    have := tab_key ha h4 h1 h
    subst this
    exact h2 h3
/-- Back to what was. -/
theorem back_eq {a b : List TRule} (ha : TabOK a) (hb : TabOK b) : sortF (aloneL b (aloneL b a) ++ aloneL a b) [] = a := by
  have hs := hb.sub (aloneL_sub b (aloneL b a))
  have hc := ha.sub (aloneL_sub a b)
  refine tab_one _ _ (sortF_ok _ _ ⟨by simp, by simp⟩).2 ha.2 fun x => ?_
  rw [sortF_set _ _ ⟨by simp, by simp⟩ (fun c hc' => ?_) (fun c _ x hx => by cases hx) ?_, List.mem_append, stay_mem, aloneL_mem]
  · constructor
    · rintro (h | h | h)
      · cases h
      · exact h.2
      · exact h.1
    · intro h
      by_cases hx : x ∈ b
      · exact .inr (.inl ⟨hx, h⟩)
      · exact .inr (.inr ⟨h, hx⟩)
  · rw [List.pairwise_append]
    exact ⟨hs.2.imp fun h => beB_key h, hc.2.imp fun h => beB_key h, fun x hx r hr => no_clash ha hr hx⟩
  · rcases List.mem_append.1 hc' with h | h
    · exact hs.1 c h
    · exact hc.1 c h
end Go.Proofs.YtgfnkigoaajllaaGreat
