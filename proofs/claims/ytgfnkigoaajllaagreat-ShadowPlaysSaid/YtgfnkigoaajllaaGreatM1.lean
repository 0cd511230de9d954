/- Plain laws on rules and changes: when they may be, which is ahead, what a table is. -/
import Derived.Test.YtgfnkigoaajllaaGreatQ1
import Derived.Test.YtgfnkigoaajllaaGreatL19
set_option linter.unusedVariables false
set_option linter.unusedSimpArgs false
set_option maxRecDepth 100000
namespace Go.Proofs.YtgfnkigoaajllaaGreat
open Go.RowKit Go.Pod

theorem ite_some {α : Type} (c : Prop) [Decidable c] (a b : α) : (if c then some a else some b) = some (if c then a else b) := by split <;> rfl
theorem inc63 (n : Nat) (h : n + 1 < 2 ^ 63) : IntKind.i64.wrap ((n : Int) + 1) = ((n + 1 : Nat) : Int) := by rw [wrapI (by omega) (by omega)]; simp
theorem Cube_at {k : Nat} (hk : 64 < k) {c : TCube} (hc : RC c) : ref01_Cube k c = some (Sb c) := by
  unfold ref01_Cube
  rw [ref01_Text_at hk hc]; rfl
/-! ### Actions -/
def actB (a : TAct) : Bool :=
  if (a.Kind == 1) then (decide (1 ≤ a.Port) && decide (a.Port ≤ 16)) && (a.Field == 0) && (a.Value == 0)
  else if (a.Kind == 2) then (((a.Port == 0) && decide (0 ≤ a.Field)) && decide (a.Field < 12)) && fitsB a.Field.toNat a.Value
  else (a.Kind == 3) && (((a.Port == 0) && (a.Field == 0)) && (a.Value == 0))
def UA (a : TAct) : Prop := U a.Value
theorem act_sound_at {a : TAct} (ha : UA a) : act_sound a = some (actB a) := by
  unfold act_sound actB
  cases e1 : (a.Kind == 1)
  · cases e2 : (a.Kind == 2)
    · simp only [Bool.false_eq_true, if_false]
      congr 1
      rw [Bool.eq_iff_iff]
      simp only [TAct.enc, cellsEq, leafEq, Bool.and_eq_true, beq_iff_eq, Bool.and_true, true_and, and_true]
      constructor
      · rintro ⟨h1, h2, h3, h4⟩; exact ⟨h1, ⟨h2, h3⟩, h4⟩
      · rintro ⟨h1, ⟨h2, h3⟩, h4⟩; exact ⟨h1, h2, h3, h4⟩
    · simp only [Bool.false_eq_true, if_false, if_true]
      unfold head_Set head_there
      by_cases hf : 0 ≤ a.Field ∧ a.Field < 12
      · obtain ⟨f, hfe⟩ := Int.eq_ofNat_of_zero_le hf.1
        have hf12 : f < 12 := by omega
        simp only [hfe, Int.toNat_natCast]
        have h1 : (0 : Int) ≤ (f : Int) := by omega
        have h2 : (f : Int) < 12 := by omega
        simp only [h1, h2, decide_true, Bool.and_self, Option.bind_some, Bool.not_true, Bool.false_eq_true, if_false, Bool.and_true]
        rw [head_fits_at hf12 ha]
        simp only [Option.bind_some]
        cases fitsB f a.Value
        · simp
        · simp
      · have h : (decide (0 ≤ a.Field) && decide (a.Field < 12)) = false := by
          rw [Bool.and_eq_false_iff]
          by_cases h0 : 0 ≤ a.Field
          · exact .inr (by simp; omega)
          · exact .inl (by simpa using h0)
        rw [h]
        simp only [Option.bind_some, Bool.not_false, if_true]
        rw [Bool.and_assoc (a.Port == 0), h]
        simp
  · simp
theorem ref_act_at {a : TAct} : ((if (a.Kind == 1) = true then some ((((decide (1 ≤ a.Port)) && (decide (a.Port ≤ 16))) && (a.Field == 0)) && (a.Value == 0))
      else ((if (a.Kind == 2) = true then ((if (((a.Port == 0) && (decide (0 ≤ a.Field))) && (decide (a.Field < 12))) = true then ((ref01_Size a.Field).bind fun x35 =>
            ((ref01_Fits a.Value x35).bind fun x37 =>
            some x37))
          else some false).bind fun (x32 : Bool) =>
          some x32)
        else ((if (a.Kind == 3) = true then some (((a.Port == 0) && (a.Field == 0)) && (a.Value == 0))
          else some false).bind fun (x39 : Bool) =>
          some x39)).bind fun (x25 : Bool) =>
        some x25)).bind fun (x18 : Bool) =>
      some x18) = some (actB a) := by
  unfold actB
  cases e1 : (a.Kind == 1)
  · cases e2 : (a.Kind == 2)
    · cases e3 : (a.Kind == 3) <;> simp
    · simp only [Bool.false_eq_true, if_false, if_true]
      cases e4 : (((a.Port == 0) && (decide (0 ≤ a.Field))) && (decide (a.Field < 12)))
      · simp
      · simp only [Bool.and_eq_true, decide_eq_true_eq] at e4
        obtain ⟨f, hf⟩ := Int.eq_ofNat_of_zero_le e4.1.2
        have hf12 : f < 12 := by omega
        simp only [if_true]
        rw [hf, ref01_Size_at hf12, Option.bind_some, ref01_Fits_at hf12]
        simp
  · simp
def actsB (l : List TAct) : Bool := decide (l.length ≤ 8) && l.all actB
theorem IndexFuncA_l0 (k : Nat) {xs : List TAct} {p : TAct → Option Bool} {q : TAct → Bool} (hq : ∀ x ∈ xs, p x = some (q x)) (hl : xs.length < 2 ^ 62) : ∀ (r n m : Nat), n + r = xs.length → r < m →
    slices_IndexFunc_Act.l0 k xs p m (n : Int) = some (match (xs.drop n).findIdx? q with | some i => .ret ((n + i : Nat) : Int) | none => .brk ())
  | r, n, 0, _, h => by omega
  | 0, n, m + 1, hn, _ => by
    rw [slices_IndexFunc_Act.l0, if_neg (by simp only [decide_eq_true_eq]; omega), List.drop_eq_nil_of_le (by omega)]; rfl
  | r + 1, n, m + 1, hn, hm => by
    have h : n < xs.length := by omega
    rw [slices_IndexFunc_Act.l0, if_pos (by simp only [decide_eq_true_eq]; omega), idx_nat h, Option.bind_some, hq _ (List.getElem_mem h), Option.bind_some, List.drop_eq_getElem_cons h, List.findIdx?_cons]
    cases hb : q xs[n]
    · simp only [Bool.false_eq_true, if_false]
      rw [inc n (by omega), IndexFuncA_l0 k hq hl r (n + 1) m (by omega) (by omega)]
      cases (xs.drop (n + 1)).findIdx? q with
      | none => rfl
      | some i => simp only [Option.map_some]; rw [show n + 1 + i = n + (i + 1) by omega]
    · simp
theorem ContainsFuncA_at {k : Nat} {xs : List TAct} {p : TAct → Option Bool} {q : TAct → Bool} (hq : ∀ x ∈ xs, p x = some (q x)) (hl : xs.length < 2 ^ 62) (hk : xs.length < k) :
    slices_ContainsFunc_Act k xs p = some (xs.any q) := by
  unfold slices_ContainsFunc_Act slices_IndexFunc_Act
  have h0 := IndexFuncA_l0 k hq hl xs.length 0 k (by omega) hk
  rw [show ((0 : Nat) : Int) = 0 from rfl, List.drop_zero] at h0
  rw [h0]
  cases h : xs.findIdx? q with
  | none =>
    rw [List.findIdx?_eq_none_iff] at h
    have : xs.any q = false := by rw [List.any_eq_false]; intro x hx; rw [h x hx]; simp
    rw [this]; rfl
  | some i =>
    rw [List.findIdx?_eq_some_iff_getElem] at h
    obtain ⟨hi, hp, _⟩ := h
    have : xs.any q = true := List.any_eq_true.2 ⟨_, List.getElem_mem hi, hp⟩
    rw [this]
    simp only [Option.bind_some, Nat.zero_add]
    simp
theorem act_Sound_at {k : Nat} (hk : 64 < k) {l : List TAct} (hl : ∀ a ∈ l, UA a) : act_Sound k l = some (actsB l) := by
  unfold act_Sound actsB
  by_cases h : l.length ≤ 8
  · rw [if_pos (by simp only [decide_eq_true_eq]; omega), ContainsFuncA_at (q := fun a => !actB a) (fun x hx => by unfold act_Sound_1; rw [act_sound_at (hl x hx)]; rfl) (by omega) (by omega)]
    simp only [Option.bind_some, h, decide_true, Bool.true_and, Option.some.injEq]
    rw [Bool.eq_iff_iff, Bool.not_eq_true', List.any_eq_false, List.all_eq_true]
    simp
  · rw [if_neg (by simp only [decide_eq_true_eq]; omega)]
    simp [h]
theorem refActs_l0 (k : Nat) {l : List TAct} (h2 : l.length < 2 ^ 63) : ∀ (r n m : Nat), n + r = l.length → r < m → ref04_Acts.l0 k l m (n : Int) = some (if (l.drop n).all actB then .brk () else .ret false)
  | r, n, 0, _, h => by omega
  | 0, n, m + 1, hn, _ => by
    rw [ref04_Acts.l0, if_neg (by simp only [decide_eq_true_eq]; omega), List.drop_eq_nil_of_le (by omega)]; rfl
  | r + 1, n, m + 1, hn, hm => by
    have h : n < l.length := by omega
    have ih := refActs_l0 k h2 r (n + 1) m (by omega) (by omega)
    have ha := @ref_act_at l[n]
    rw [ref04_Acts.l0, if_pos (by simp only [decide_eq_true_eq]; omega), idx_nat h, Option.bind_some, inc63 n (by omega), ha, Option.bind_some, List.drop_eq_getElem_cons h, List.all_cons]
    cases actB l[n]
    · simp
    · simpa using ih
theorem ref04_Acts_at {k : Nat} {l : List TAct} (h : l.length < k) (h2 : l.length < 2 ^ 63) : ref04_Acts k l = some (actsB l) := by
  unfold ref04_Acts actsB
  have h0 := refActs_l0 k h2 l.length 0 k (by omega) h
  rw [show ((0 : Nat) : Int) = 0 from rfl, List.drop_zero] at h0
  rw [h0]
  have e : decide ((l.length : Int) ≤ 8) = decide (l.length ≤ 8) := by rw [Bool.eq_iff_iff, decide_eq_true_eq, decide_eq_true_eq]; omega
  cases l.all actB
  · simp
  · simp [e]
/-! ### Rules and changes -/
def spanB (n m : Int) : Bool := decide (0 ≤ n) && decide (n ≤ m)
structure OkR (k : Nat) (r : TRule) : Prop where
  rc : RC r.Match
  ua : ∀ a ∈ r.Acts, UA a
  len : r.Acts.length < k
  big : r.Acts.length < 2 ^ 63
  fit : r.Acts.length * 32 ≤ 140737488355328
structure OkM (k : Nat) (m : TMod) : Prop where
  rc : RC m.Match
  ua : ∀ a ∈ m.Acts, UA a
  len : m.Acts.length < k
  big : m.Acts.length < 2 ^ 63
  fit : m.Acts.length * 32 ≤ 140737488355328
def ruleB (r : TRule) : Bool := (((((Sb r.Match && actsB r.Acts) && spanB r.Prio 65535) && spanB r.Idle 1048576) && spanB r.Hard 1048576) && spanB r.Owner 255) && (decide (0 ≤ r.Hits) && decide (0 ≤ r.Quiet) && decide (0 ≤ r.Age))
theorem rule_Sound_at {k : Nat} (hk : 64 < k) {r : TRule} (h : OkR k r) : rule_Sound k r = some (ruleB r) := by
  unfold rule_Sound rule_span ruleB
  rw [cube_Sound_at (by omega) h.rc, act_Sound_at hk h.ua]
  have e : decide (0 ≤ min (min r.Hits r.Quiet) r.Age) = (decide (0 ≤ r.Hits) && decide (0 ≤ r.Quiet) && decide (0 ≤ r.Age)) := by
    rw [Bool.eq_iff_iff]
    simp only [Bool.and_eq_true, decide_eq_true_eq]
    omega
  simp only [Option.bind_some, ite_some, e]
  congr 1
  unfold spanB
  cases Sb r.Match <;> cases actsB r.Acts <;> cases (decide (0 ≤ r.Prio) && decide (r.Prio ≤ 65535)) <;> cases (decide (0 ≤ r.Idle) && decide (r.Idle ≤ 1048576)) <;> cases (decide (0 ≤ r.Hard) && decide (r.Hard ≤ 1048576)) <;> simp
theorem ref04_Rule_at {k : Nat} (hk : 64 < k) {r : TRule} (h : OkR k r) : ref04_Rule k r = some (ruleB r) := by
  unfold ref04_Rule ref04_span ruleB
  rw [Cube_at hk h.rc, ref04_Acts_at h.len h.big]
  simp only [Option.bind_some, ite_some]
  congr 1
  unfold spanB
  cases Sb r.Match <;> cases actsB r.Acts <;> cases (decide (0 ≤ r.Prio) && decide (r.Prio ≤ 65535)) <;> cases (decide (0 ≤ r.Idle) && decide (r.Idle ≤ 1048576)) <;> cases (decide (0 ≤ r.Hard) && decide (r.Hard ≤ 1048576)) <;> simp [Bool.and_assoc]
theorem ruleB_Sb {r : TRule} (h : ruleB r = true) : Sb r.Match = true := by
  unfold ruleB at h
  simp only [Bool.and_eq_true] at h
  exact h.1.1.1.1.1.1
def plainB (m : TMod) : Bool := ((m.Idle == 0) && (m.Hard == 0)) && (!m.Check)
def modB (m : TMod) : Bool := (((Sb m.Match && actsB m.Acts) && spanB m.Prio 65535) && spanB m.Owner 255) &&
  (if (m.Kind == 1) then spanB m.Idle 1048576 && spanB m.Hard 1048576
  else if (m.Kind == 2) then plainB m && (m.Prio == 0)
  else if (m.Kind == 3) then (plainB m && (m.Prio == 0)) && ((m.Acts.length : Int) == 0)
  else if (m.Kind == 4) then plainB m
  else if (m.Kind == 5) then plainB m && ((m.Acts.length : Int) == 0)
  else false)
theorem modB_Sb {m : TMod} (h : modB m = true) : Sb m.Match = true := by
  unfold modB at h
  simp only [Bool.and_eq_true] at h
  exact h.1.1.1.1
theorem mods_Sound_at {k : Nat} (hk : 64 < k) {m : TMod} (h : OkM k m) : mods_Sound k m = some (modB m) := by
  unfold mods_Sound mods_span mods_plain modB
  rw [cube_Sound_at (by omega) h.rc, act_Sound_at hk h.ua]
  simp only [Option.bind_some, ite_some]
  congr 1
  unfold spanB plainB
  cases Sb m.Match
  · simp
  · cases actsB m.Acts
    · simp
    · cases (decide (0 ≤ m.Prio) && decide (m.Prio ≤ 65535))
      · simp
      · cases (decide (0 ≤ m.Owner) && decide (m.Owner ≤ 255))
        · simp
        · simp only [Bool.not_true, Bool.false_eq_true, if_false, Bool.and_self, Bool.true_and]
          cases (m.Kind == 1)
          · rfl
          · cases (decide (0 ≤ m.Idle) && decide (m.Idle ≤ 1048576)) <;> simp
theorem ref04_Mod_at {k : Nat} (hk : 64 < k) {m : TMod} (h : OkM k m) : ref04_Mod k m = some (modB m) := by
  unfold ref04_Mod ref04_span modB
  rw [Cube_at hk h.rc, ref04_Acts_at h.len h.big]
  simp only [Option.bind_some, ite_some]
  congr 1
  unfold spanB plainB
  cases Sb m.Match
  · cases decide (m.Kind < 1) || decide (5 < m.Kind) <;> simp
  · cases actsB m.Acts
    · cases decide (m.Kind < 1) || decide (5 < m.Kind) <;> simp
    · cases (decide (0 ≤ m.Prio) && decide (m.Prio ≤ 65535))
      · cases decide (m.Kind < 1) || decide (5 < m.Kind) <;> simp
      · cases (decide (0 ≤ m.Owner) && decide (m.Owner ≤ 255))
        · cases decide (m.Kind < 1) || decide (5 < m.Kind) <;> simp
        · simp only [Bool.not_true, Bool.and_self, Bool.true_and]
          rw [Bool.eq_iff_iff]
          by_cases k1 : m.Kind = 1
          · simp [k1]
          · by_cases k2 : m.Kind = 2
            · cases m.Check <;> simp [k2] <;> omega
            · by_cases k3 : m.Kind = 3
              · by_cases ha : m.Acts = [] <;> cases m.Check <;> simp [k3, ha] <;> omega
              · by_cases k4 : m.Kind = 4
                · cases m.Check <;> simp [k4] <;> omega
                · by_cases k5 : m.Kind = 5
                  · cases m.Check <;> simp [k5] <;> omega
                  · have : (decide (m.Kind < 1) || decide (5 < m.Kind)) = true := by simp; omega
                    simp [this, k1, k2, k3, k4, k5]
end Go.Proofs.YtgfnkigoaajllaaGreat
