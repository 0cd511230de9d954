/- Changes laid on tables, one by one; the changes of a unit. -/
import Derived.Test.YtgfnkigoaajllaaGreatN3
set_option linter.unusedVariables false
set_option linter.unusedSimpArgs false
set_option maxRecDepth 100000
namespace Go.Proofs.YtgfnkigoaajllaaGreat
open Go.RowKit Go.Pod

/-- One change more, if it has no error. -/
def stepC (l : List TRule) (m : TMod) : List TRule := if (applyC l m 1073741824).2 = 0 then (applyC l m 1073741824).1 else l
def layC (l : List TRule) (ms : List TMod) : List TRule := ms.foldl stepC l
theorem layC_nil (l : List TRule) : layC l [] = l := rfl
theorem layC_cons (l : List TRule) (m : TMod) (ms : List TMod) : layC l (m :: ms) = layC (stepC l m) ms := rfl
theorem stepC_len (l : List TRule) (m : TMod) : (stepC l m).length ≤ l.length + 1 := by
  unfold stepC
  split
  · exact applyC_len
  · omega
theorem stepC_ok {k : Nat} {l : List TRule} {m : TMod} (hm : OkM k m) (hl : ∀ r ∈ l, OkR k r) : ∀ x ∈ stepC l m, OkR k x := by
  unfold stepC
  split
  · exact applyC_ok hm hl
  · exact hl
theorem stepC_tab {l : List TRule} {m : TMod} (h : TabOK l) : TabOK (stepC l m) := by
  unfold stepC
  split
  · rename_i h0; exact tabB_iff.1 (applyC_tab h0)
  · exact h
theorem layC_len : ∀ (ms : List TMod) (l : List TRule), (layC l ms).length ≤ l.length + ms.length
  | [], l => by rw [layC_nil]; simp
  | m :: ms, l => by
    have h1 := layC_len ms (stepC l m)
    have h2 := stepC_len l m
    rw [layC_cons, List.length_cons]; omega
theorem layC_ok {k : Nat} : ∀ (ms : List TMod) (l : List TRule), (∀ m ∈ ms, OkM k m) → (∀ r ∈ l, OkR k r) → ∀ x ∈ layC l ms, OkR k x
  | [], l, _, hl => hl
  | m :: ms, l, hm, hl => layC_ok ms (stepC l m) (fun x hx => hm x (List.mem_cons_of_mem _ hx)) (stepC_ok (hm m List.mem_cons_self) hl)
theorem layC_tab : ∀ (ms : List TMod) (l : List TRule), TabOK l → TabOK (layC l ms)
  | [], l, h => h
  | m :: ms, l, h => layC_tab ms (stepC l m) (stepC_tab h)

theorem refLaid_l0 {k : Nat} (hk : 2000 < k) {ms : List TMod} (hm : ∀ m ∈ ms, OkM k m) : ∀ (r n f : Nat) (l : List TRule), n + r = ms.length → r < f → (∀ x ∈ l, OkR k x) → l.length + r ≤ 990 → ms.length < 2 ^ 60 →
    ref04_Laid.l0 k ms f l (n : Int) = some (layC l (ms.drop n))
  | r, n, 0, _, _, h, _, _, _ => by omega
  | 0, n, f + 1, l, hn, _, _, _, _ => by
    rw [ref04_Laid.l0, if_neg (by simp only [decide_eq_true_eq]; omega), List.drop_eq_nil_of_le (by omega)]; rfl
  | r + 1, n, f + 1, l, hn, hf, hl, hlen, hbig => by
    have h : n < ms.length := by omega
    have hmo := hm _ (List.getElem_mem h)
    have e : ((if (applyC l ms[n] 1073741824).2 == 0 then some (applyC l ms[n] 1073741824).1 else some l).bind fun (x35 : List TRule) => some x35) = some (stepC l ms[n]) := by
      unfold stepC
      by_cases h0 : (applyC l ms[n] 1073741824).2 = 0
      · rw [if_pos (by simp [h0]), if_pos h0]; rfl
      · rw [if_neg (by simpa using h0), if_neg h0]; rfl
    have hs := stepC_len l ms[n]
    rw [ref04_Laid.l0, if_pos (by simp only [decide_eq_true_eq]; omega), idx_nat h, Option.bind_some, ref04_Apply_at hk hmo hl (by omega), Option.bind_some, e, Option.bind_some, inc n (by omega),
      refLaid_l0 hk hm r (n + 1) f (stepC l ms[n]) (by omega) (by omega) (stepC_ok hmo hl) (by omega) hbig, List.drop_eq_getElem_cons h, layC_cons]
theorem refLaid_at {k : Nat} (hk : 2000 < k) {ms : List TMod} (hm : ∀ m ∈ ms, OkM k m) {l : List TRule} (hl : ∀ x ∈ l, OkR k x) (hlen : l.length + ms.length ≤ 990) : ref04_Laid k l ms = some (layC l ms) := by
  unfold ref04_Laid
  have h0 := refLaid_l0 hk hm ms.length 0 k l (by omega) (by omega) hl hlen (by omega)
  rw [show ((0 : Nat) : Int) = 0 from rfl, List.drop_zero] at h0
  rw [h0]; rfl
theorem sLaid_l0 {k : Nat} (hk : 2000 < k) {ms : List TMod} (hm : ∀ m ∈ ms, OkM k m) : ∀ (r n f : Nat) (l : List TRule) (log : List Tundo_Patch), n + r = ms.length → r < f → (∀ x ∈ l, OkR k x) → l.length + r ≤ 990 → ms.length < 2000 → log.length ≤ n →
    ∃ log', shadow_laid.l0 k ms f l log (n : Int) = some (layC l (ms.drop n), log')
  | r, n, 0, _, _, _, h, _, _, _, _ => by omega
  | 0, n, f + 1, l, log, hn, _, _, _, _, _ => by
    refine ⟨log, ?_⟩
    rw [shadow_laid.l0, if_neg (by simp only [decide_eq_true_eq]; omega), List.drop_eq_nil_of_le (by omega)]; rfl
  | r + 1, n, f + 1, l, log, hn, hf, hl, hlen, hbig, hlog => by
    have h : n < ms.length := by omega
    have hmo := hm _ (List.getElem_mem h)
    have hs := stepC_len l ms[n]
    rw [shadow_laid.l0, if_pos (by simp only [decide_eq_true_eq]; omega), idx_nat h, Option.bind_some, Inverse_at hk hmo hl (by omega), Option.bind_some, inc n (by omega), List.drop_eq_getElem_cons h, layC_cons]
    by_cases h0 : (applyC l ms[n] 1073741824).2 = 0
    · have e : stepC l ms[n] = (applyC l ms[n] 1073741824).1 := by unfold stepC; rw [if_pos h0]
      rw [if_pos h0, if_neg (by simp), app_some (by rw [List.length_singleton]; omega)]
      simp only [Option.bind_some]
      rw [← e]
      exact sLaid_l0 hk hm r (n + 1) f (stepC l ms[n]) _ (by omega) (by omega) (stepC_ok hmo hl) (by omega) hbig (by rw [List.length_append, List.length_singleton]; omega)
    · have e : stepC l ms[n] = l := by unfold stepC; rw [if_neg h0]
      rw [if_neg h0, if_pos (by simpa using h0)]
      simp only [Option.bind_some]
      rw [e]
      exact sLaid_l0 hk hm r (n + 1) f l log (by omega) (by omega) hl (by omega) hbig (by omega)
theorem sLaid_at {k : Nat} (hk : 2000 < k) {ms : List TMod} (hm : ∀ m ∈ ms, OkM k m) {l : List TRule} (hl : ∀ x ∈ l, OkR k x) (hlen : l.length + ms.length ≤ 990) : ∃ log, shadow_laid k l ms = some (layC l ms, log) := by
  unfold shadow_laid
  obtain ⟨log, h0⟩ := sLaid_l0 hk hm ms.length 0 k l [] (by omega) (by omega) hl hlen (by omega) (by simp)
  rw [show ((0 : Nat) : Int) = 0 from rfl, List.drop_zero] at h0
  exact ⟨log, by rw [h0]; rfl⟩

/-- The changes of a unit. -/
def forC (cs : List TChange) (u : Int) : List TMod := (cs.filter fun c => c.Unit == u).map (·.Mod)
theorem forC_len (cs : List TChange) (u : Int) : (forC cs u).length ≤ cs.length := by
  unfold forC; rw [List.length_map]; exact List.length_filter_le _ _
theorem forC_ok {k : Nat} {cs : List TChange} {u : Int} (h : ∀ c ∈ cs, OkM k c.Mod) : ∀ m ∈ forC cs u, OkM k m := fun m hm => by
  unfold forC at hm
  obtain ⟨c, hc, rfl⟩ := List.mem_map.1 hm
  exact h c (List.mem_filter.1 hc).1
theorem forC_drop {cs : List TChange} {u : Int} {n : Nat} (h : n < cs.length) : forC (cs.drop n) u = (if cs[n].Unit == u then [cs[n].Mod] else []) ++ forC (cs.drop (n + 1)) u := by
  unfold forC
  rw [List.drop_eq_getElem_cons h, List.filter_cons]
  cases cs[n].Unit == u <;> rfl
theorem refFor_l0 (k : Nat) {cs : List TChange} {u : Int} (hlen : cs.length ≤ 2000) : ∀ (r n f : Nat) (out : List TMod), n + r = cs.length → r < f → out.length ≤ n → ref19_For.l0 k cs u f out (n : Int) = some (out ++ forC (cs.drop n) u)
  | r, n, 0, _, _, h, _ => by omega
  | 0, n, f + 1, out, hn, _, _ => by
    rw [ref19_For.l0, if_neg (by simp only [decide_eq_true_eq]; omega), List.drop_eq_nil_of_le (by omega)]; simp [forC]
  | r + 1, n, f + 1, out, hn, hf, ho => by
    have h : n < cs.length := by omega
    rw [ref19_For.l0, if_pos (by simp only [decide_eq_true_eq]; omega), idx_nat h, Option.bind_some, inc n (by omega), forC_drop h]
    cases cs[n].Unit == u
    · simp only [Bool.false_eq_true, if_false, Option.bind_some, List.nil_append]
      exact refFor_l0 k hlen r (n + 1) f out (by omega) (by omega) (by omega)
    · simp only [if_true]
      rw [app_some (by rw [List.length_singleton]; omega)]
      simp only [Option.bind_some]
      rw [refFor_l0 k hlen r (n + 1) f _ (by omega) (by omega) (by rw [List.length_append, List.length_singleton]; omega), List.append_assoc]
theorem refFor_at {k : Nat} (hk : 2000 < k) {cs : List TChange} {u : Int} (hlen : cs.length ≤ 2000) : ref19_For k cs u = some (forC cs u) := by
  unfold ref19_For
  have h0 := refFor_l0 k (u := u) hlen cs.length 0 k [] (by omega) (by omega) (by simp)
  rw [show ((0 : Nat) : Int) = 0 from rfl, List.drop_zero, List.nil_append] at h0
  rw [h0]; rfl
theorem cloneA {l : List TAct} (h : l.length * 32 ≤ 140737488355328) : slices_Clone_Act l = some l := by
  unfold slices_Clone_Act
  rw [app_some (by simpa using h)]; rfl
theorem sFor_l0 (k : Nat) {cs : List TChange} {u : Int} (hc : ∀ c ∈ cs, OkM k c.Mod) (hlen : cs.length ≤ 2000) : ∀ (r n f : Nat) (out : List TMod), n + r = cs.length → r < f → out.length ≤ n → region_For.l0 k cs u f out (n : Int) = some (out ++ forC (cs.drop n) u)
  | r, n, 0, _, _, h, _ => by omega
  | 0, n, f + 1, out, hn, _, _ => by
    rw [region_For.l0, if_neg (by simp only [decide_eq_true_eq]; omega), List.drop_eq_nil_of_le (by omega)]; simp [forC]
  | r + 1, n, f + 1, out, hn, hf, ho => by
    have h : n < cs.length := by omega
    rw [region_For.l0, if_pos (by simp only [decide_eq_true_eq]; omega), idx_nat h, Option.bind_some, inc n (by omega), forC_drop h, cloneA (hc _ (List.getElem_mem h)).fit]
    cases cs[n].Unit == u
    · simp only [Bool.false_eq_true, if_false, Option.bind_some, List.nil_append]
      exact sFor_l0 k hc hlen r (n + 1) f out (by omega) (by omega) (by omega)
    · simp only [if_true, slices_Clip_Act, Option.bind_some]
      rw [show TMod.setActs cs[n].Mod cs[n].Mod.Acts = cs[n].Mod from rfl, app_some (by rw [List.length_singleton]; omega)]
      simp only [Option.bind_some]
      rw [sFor_l0 k hc hlen r (n + 1) f _ (by omega) (by omega) (by rw [List.length_append, List.length_singleton]; omega), List.append_assoc]
theorem sFor_at {k : Nat} (hk : 2000 < k) {cs : List TChange} {u : Int} (hc : ∀ c ∈ cs, OkM k c.Mod) (hlen : cs.length ≤ 2000) : region_For k cs u = some (forC cs u) := by
  unfold region_For
  have h0 := sFor_l0 k (u := u) hc hlen cs.length 0 k [] (by omega) (by omega) (by simp)
  rw [show ((0 : Nat) : Int) = 0 from rfl, List.drop_zero, List.nil_append] at h0
  rw [h0]; rfl
end Go.Proofs.YtgfnkigoaajllaaGreat
