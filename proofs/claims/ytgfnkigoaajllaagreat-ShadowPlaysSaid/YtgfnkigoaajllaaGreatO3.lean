/- The law of ShadowSteps: what the program answers. -/
import Derived.Test.YtgfnkigoaajllaaGreatO2
import Derived.KernelRfl
set_option linter.unusedVariables false
set_option linter.unusedSimpArgs false
set_option maxRecDepth 100000
namespace Go.Proofs.YtgfnkigoaajllaaGreat
open Go.RowKit Go.Pod

def am22 : TMod := { Kind := 1, Match := TCube.zero, Prio := 3, Acts := [], Idle := 0, Hard := 0, Owner := 0, Check := false }
def ch22 : TChange := { Unit := 0, Mod := am22 }
theorem answers22 {k : Nat} (hk : 2000 < k) : law22_answers k = some true := by
  have hok : OkM k am22 := ⟨RC_zero, by simp [am22], by simp [am22]; omega, by simp [am22], by simp [am22]⟩
  have b1 : shadow_Shadow_Begin k { base := [[]], open_ := [] } 1 [ch22] = some ({ base := [[]], open_ := [{ id := 1, list := [ch22] }] }, 0) := by
    rw [Begin_at hk (by simp) (by simp)]; rfl
  have b2 : shadow_Shadow_Begin k { base := [[]], open_ := [{ id := 1, list := [ch22] }] } 1 [ch22] = some ({ base := [[]], open_ := [{ id := 1, list := [ch22] }] }, 5) := by
    rw [Begin_at hk (by simp) (by simp)]; rfl
  have t1 : shadow_Shadow_Table k { base := [[]], open_ := [{ id := 1, list := [ch22] }] } 0 = some [ruleOf am22] := by
    rw [Table_at hk (by simp only [List.mem_singleton, forall_eq]; exact hok) (by simp) (by simp [sumL])]
    exact congrArg some (by kernel_rfl)
  have a1 : shadow_Shadow_Abort k { base := [[]], open_ := [{ id := 1, list := [ch22] }] } 1 = some ({ base := [[]], open_ := [] }, 0) := by
    rw [Abort_at hk (by simp)]; rfl
  have t2 : shadow_Shadow_Table k { base := [[]], open_ := [] } 0 = some [] := by
    rw [Table_at hk (by simp) (by simp) (by simp [sumL])]; rfl
  have hn : shadow_New 1 = some { base := [[]], open_ := [] } := New_at 1 (by decide)
  unfold law22_answers
  rw [hn, Option.bind_some]
  show ((shadow_Shadow_Begin k { base := [[]], open_ := [] } 1 [ch22]).bind _) = _
  rw [b1, Option.bind_some]
  show ((shadow_Shadow_Begin k { base := [[]], open_ := [{ id := 1, list := [ch22] }] } 1 [ch22]).bind _) = _
  rw [b2, Option.bind_some]
  dsimp only
  rw [if_pos (show ((0 : Int) == 0 && (5 : Int) == 5) = true from rfl), t1, Option.bind_some, Option.bind_some, if_pos (show (((([ruleOf am22] : List TRule).length : Int) == 1) = true) from rfl), a1, Option.bind_some, Option.bind_some]
  dsimp only
  rw [if_pos (show ((0 : Int) == 0) = true from rfl), t2]
  rfl
theorem Ints_nil {k : Nat} (hk : 2000 < k) : ref01_Ints k [] [] = some true := by
  unfold ref01_Ints
  obtain ⟨f, rfl⟩ : ∃ f, k = f + 1 := ⟨k - 1, by omega⟩
  rfl
theorem Open_nil {k : Nat} (hk : 2000 < k) (b : List (List TRule)) : shadow_Shadow_Open k { base := b, open_ := [] } = some [] := by
  unfold shadow_Shadow_Open
  obtain ⟨f, rfl⟩ : ∃ f, k = f + 1 := ⟨k - 1, by omega⟩
  rw [if_neg (by decide), shadow_Shadow_Open.l0, if_neg (by simp), Option.bind_some]
  unfold slices_Sort_int sortI
  rw [if_pos (by simp), Option.bind_some]
  simp
/-- The three tables with a transaction's changes. -/
def W3 (cs : List TChange) (w : AL3_26) : AL3_26 := { e0 := layC w.e0 (forC cs 0), e1 := layC w.e1 (forC cs 1), e2 := layC w.e2 (forC cs 2) }
def sh3 (w : AL3_26) (os : List Tshadow_open) : Tshadow_Shadow := { base := [w.e0, w.e1, w.e2], open_ := os }
structure Inv3 (k : Nat) (w : AL3_26) (n : Nat) : Prop where
  ok : ∀ l ∈ [w.e0, w.e1, w.e2], ∀ r ∈ l, OkR k r
  len : ∀ l ∈ [w.e0, w.e1, w.e2], l.length ≤ n
theorem Inv3.mono {k : Nat} {w : AL3_26} {n m : Nat} (h : Inv3 k w n) (hnm : n ≤ m) : Inv3 k w m := ⟨h.ok, fun l hl => Nat.le_trans (h.len l hl) hnm⟩
theorem Inv3.step {k : Nat} {w : AL3_26} {n : Nat} {cs : List TChange} (h : Inv3 k w n) (hc : ∀ c ∈ cs, OkM k c.Mod) (hl : cs.length ≤ 8) : Inv3 k (W3 cs w) (n + 8) := by
  have key : ∀ (l : List TRule) (u : Int), (∀ r ∈ l, OkR k r) → l.length ≤ n → (∀ r ∈ layC l (forC cs u), OkR k r) ∧ (layC l (forC cs u)).length ≤ n + 8 := fun l u h1 h2 => by
    have h3 := layC_len (forC cs u) l
    have h4 := forC_len cs u
    exact ⟨layC_ok _ _ (forC_ok hc) h1, by omega⟩
  have k0 := key w.e0 0 (h.ok _ (by simp)) (h.len _ (by simp))
  have k1 := key w.e1 1 (h.ok _ (by simp)) (h.len _ (by simp))
  have k2 := key w.e2 2 (h.ok _ (by simp)) (h.len _ (by simp))
  refine ⟨fun l hl => ?_, fun l hl => ?_⟩ <;> simp only [W3, List.mem_cons, List.not_mem_nil, or_false] at hl <;> rcases hl with rfl | rfl | rfl
  · exact k0.1
  · exact k1.1
  · exact k2.1
  · exact k0.2
  · exact k1.2
  · exact k2.2
theorem Table3 {k : Nat} (hk : 2000 < k) {w : AL3_26} {n : Nat} {os : List Tshadow_open} (h : Inv3 k w n) (hc : ∀ o ∈ os, ∀ c ∈ o.list, OkM k c.Mod) (hol : os.length ≤ 1000) (hs : n + sumL os ≤ 990) (u : Int) :
    shadow_Shadow_Table k (sh3 w os) u = some (tableC (sh3 w os) u) :=
  Table_at hk hc hol fun l hl => ⟨h.ok l hl, by have := h.len l hl; show l.length + sumL os ≤ 990; omega⟩
theorem Steps_l1 {k : Nat} (hk : 2000 < k) {cs : List TChange} {w : AL3_26} {n : Nat} {i e : Int} (h : Inv3 k w n) (hc : ∀ c ∈ cs, OkM k c.Mod) (hl : cs.length ≤ 8) (hn : n ≤ 900) (f : Nat) :
    law22_ShadowSteps.l1 k cs (sh3 w [{ id := i, list := cs }], e) (f + 4) w 0 = some (.brk (W3 cs w)) := by
  have hT := fun u => Table3 hk (os := [{ id := i, list := cs }]) h (by simp only [List.mem_singleton, forall_eq]; exact hc) (by simp) (by simp only [sumL]; omega) u
  have hF : ∀ u, ref19_For k cs u = some (forC cs u) := fun u => refFor_at hk (by omega)
  have hL : ∀ (l : List TRule) (u : Int), (∀ r ∈ l, OkR k r) → l.length ≤ n → ref04_Laid k l (forC cs u) = some (layC l (forC cs u)) := fun l u h1 h2 => refLaid_at hk (forC_ok hc) h1 (by have := forC_len cs u; omega)
  have hS : ∀ (l : List TRule) (u : Int), (∀ r ∈ l, OkR k r) → l.length ≤ n → ref04_Same k (layC l (forC cs u)) (layC l (forC cs u)) = some true := fun l u h1 h2 => by
    have h3 := layC_len (forC cs u) l
    have h4 := forC_len cs u
    exact Same_refl (layC_ok _ _ (forC_ok hc) h1) (by omega) (by omega)
  have o0 := h.ok w.e0 (by simp); have o1 := h.ok w.e1 (by simp); have o2 := h.ok w.e2 (by simp)
  have n0 := h.len w.e0 (by simp); have n1 := h.len w.e1 (by simp); have n2 := h.len w.e2 (by simp)
  rw [law22_ShadowSteps.l1, if_pos (by decide), if_pos (by decide), hF, Option.bind_some]
  rw [show AL3_26.at w 0 = w.e0 from rfl, hL _ _ o0 n0, Option.bind_some, hT, Option.bind_some]
  rw [show tableC (sh3 w [{ id := i, list := cs }]) 0 = layC w.e0 (forC cs 0) from rfl, show AL3_26.at (AL3_26.upd w 0 (layC w.e0 (forC cs 0))) 0 = layC w.e0 (forC cs 0) from rfl, hS _ _ o0 n0, Option.bind_some, if_neg (by decide)]
  rw [show IntKind.i64.wrap (0 + 1) = 1 from rfl, law22_ShadowSteps.l1, if_pos (by decide), if_pos (by decide), hF, Option.bind_some]
  rw [show AL3_26.at (AL3_26.upd w 0 (layC w.e0 (forC cs 0))) 1 = w.e1 from rfl, hL _ _ o1 n1, Option.bind_some, hT, Option.bind_some]
  rw [show tableC (sh3 w [{ id := i, list := cs }]) 1 = layC w.e1 (forC cs 1) from rfl, show AL3_26.at (AL3_26.upd (AL3_26.upd w 0 (layC w.e0 (forC cs 0))) 1 (layC w.e1 (forC cs 1))) 1 = layC w.e1 (forC cs 1) from rfl, hS _ _ o1 n1, Option.bind_some, if_neg (by decide)]
  rw [show IntKind.i64.wrap (1 + 1) = 2 from rfl, law22_ShadowSteps.l1, if_pos (by decide), if_pos (by decide), hF, Option.bind_some]
  rw [show AL3_26.at (AL3_26.upd (AL3_26.upd w 0 (layC w.e0 (forC cs 0))) 1 (layC w.e1 (forC cs 1))) 2 = w.e2 from rfl, hL _ _ o2 n2, Option.bind_some, hT, Option.bind_some]
  rw [show tableC (sh3 w [{ id := i, list := cs }]) 2 = layC w.e2 (forC cs 2) from rfl, show AL3_26.at (AL3_26.upd (AL3_26.upd (AL3_26.upd w 0 (layC w.e0 (forC cs 0))) 1 (layC w.e1 (forC cs 1))) 2 (layC w.e2 (forC cs 2))) 2 = layC w.e2 (forC cs 2) from rfl, hS _ _ o2 n2, Option.bind_some, if_neg (by decide)]
  rw [show IntKind.i64.wrap (2 + 1) = 3 from rfl, law22_ShadowSteps.l1, if_neg (by decide)]
  rfl
theorem Steps_l0 {k : Nat} (hk : 2000 < k) {list : List (List TChange)} (hc : ∀ cs ∈ list, ∀ c ∈ cs, OkM k c.Mod) (hll : list.length ≤ 8) : ∀ (r n f : Nat) (w : AL3_26), n + r = list.length → r < f → Inv3 k w (8 * n) →
    law22_ShadowSteps.l0 k list f w (sh3 w []) (n : Int) = some (.ret true) ∨ ∃ w', law22_ShadowSteps.l0 k list f w (sh3 w []) (n : Int) = some (.brk (w', sh3 w' [])) ∧ Inv3 k w' 64
  | r, n, 0, _, _, h, _ => by omega
  | 0, n, f + 1, w, hn, _, hi => by
    refine .inr ⟨w, ?_, hi.mono (by omega)⟩
    rw [law22_ShadowSteps.l0, if_neg (by simp only [decide_eq_true_eq]; omega)]
  | r + 1, n, f + 1, w, hn, hf, hi => by
    have h : n < list.length := by omega
    have hcn := hc _ (List.getElem_mem h)
    rw [law22_ShadowSteps.l0, if_pos (by simp only [decide_eq_true_eq]; omega), idx_nat h, Option.bind_some, inc n (by omega)]
    by_cases h8 : list[n].length ≤ 8
    · have hb := Begin_at hk (s := sh3 w []) (id := (n : Int)) (cs := list[n]) (by simp [sh3]) (by omega)
      rw [if_neg (by simp; omega), hb, Option.bind_some]
      rw [show (sh3 w []).open_.any (fun o => o.id == (n : Int)) = false from rfl]
      simp only [Bool.false_eq_true, if_false]
      by_cases ho : list[n].any (outB (sh3 w []).base.length) = true
      · rw [if_pos ho]
        simp only [show ((1 : Int) != 0) = true from rfl, if_true, Option.bind_some]
        exact Steps_l0 hk hc hll r (n + 1) f w (by omega) (by omega) (hi.mono (by omega))
      · rw [if_neg ho]
        simp only [show ((0 : Int) != 0) = false from rfl, Bool.false_eq_true, if_false]
        rw [show ({ sh3 w [] with open_ := (sh3 w []).open_ ++ [{ id := (n : Int), list := list[n] }] } : Tshadow_Shadow) = sh3 w [{ id := (n : Int), list := list[n] }] from rfl]
        have hcm := Commit_at hk (s := sh3 w [{ id := (n : Int), list := list[n] }]) (id := (n : Int)) (by simp [sh3]) (by simp only [sh3, List.mem_singleton, forall_eq]; exact hcn) (by simp only [sh3, List.mem_singleton, forall_eq]; omega)
          (fun l hl => ⟨hi.ok l hl, by have := hi.len l hl; simp only [sh3, List.mem_singleton, forall_eq]; omega⟩) (by simp [sh3])
        have hfi : (sh3 w [{ id := (n : Int), list := list[n] }]).open_.findIdx? (fun o => o.id == (n : Int)) = some 0 := by simp [sh3, List.findIdx?_cons]
        rw [hfi] at hcm
        have hcm' : shadow_Shadow_Commit k (sh3 w [{ id := (n : Int), list := list[n] }]) (n : Int) = some (sh3 (W3 list[n] w) [], 0) := hcm
        obtain ⟨g, hg⟩ : ∃ g, k = g + 4 := ⟨k - 4, by omega⟩
        have hl1 : law22_ShadowSteps.l1 k list[n] (sh3 w [{ id := (n : Int), list := list[n] }], 0) k w 0 = some (.brk (W3 list[n] w)) := by
          have := Steps_l1 hk (i := (n : Int)) (e := 0) hi hcn h8 (by omega) g
          rw [← hg] at this
          exact this
        rw [hl1, Option.bind_some]
        dsimp only
        rw [hcm', Option.bind_some, if_neg (by simp), Option.bind_some]
        exact Steps_l0 hk hc hll r (n + 1) f (W3 list[n] w) (by omega) (by omega) ((hi.step hcn h8).mono (by omega))
    · rw [if_pos (by simp; omega), answers22 hk]
      exact .inl rfl
theorem law_ShadowSteps {k : Nat} (hk : 2000 < k) {list : List (List TChange)} (hc : ∀ cs ∈ list, ∀ c ∈ cs, OkM k c.Mod) : law22_ShadowSteps k list = some true := by
  unfold law22_ShadowSteps
  by_cases hl : list.length ≤ 8
  · have hn : shadow_New 3 = some (sh3 AL3_26.zero []) := New_at 3 (by decide)
    rw [if_neg (by simp; omega), hn, Option.bind_some]
    have hi : Inv3 k AL3_26.zero (8 * 0) := ⟨by simp [AL3_26.zero], by simp [AL3_26.zero]⟩
    rcases Steps_l0 hk hc hl list.length 0 k AL3_26.zero (by omega) (by omega) hi with h | ⟨w', h, hw⟩
    · rw [show ((0 : Nat) : Int) = 0 from rfl] at h
      rw [h]; rfl
    · rw [show ((0 : Nat) : Int) = 0 from rfl] at h
      rw [h, Option.bind_some]
      dsimp only
      have hT := fun u => Table3 hk (os := []) hw (by simp) (by simp) (by simp [sumL]) u
      have s0 := Same_refl (k := k) (hw.ok w'.e0 (by simp)) (by have := hw.len w'.e0 (by simp); omega) (by have := hw.len w'.e0 (by simp); omega)
      have s2 := Same_refl (k := k) (hw.ok w'.e2 (by simp)) (by have := hw.len w'.e2 (by simp); omega) (by have := hw.len w'.e2 (by simp); omega)
      rw [answers22 hk, Option.bind_some, if_pos rfl, hT, Option.bind_some, show tableC (sh3 w' []) 0 = w'.e0 from rfl, s0, Option.bind_some, if_pos rfl, hT, Option.bind_some, show tableC (sh3 w' []) 2 = w'.e2 from rfl, s2, Option.bind_some, if_pos rfl,
        show shadow_Shadow_Open k (sh3 w' []) = some [] from Open_nil hk _, Option.bind_some, Ints_nil hk]
      rfl
  · rw [if_pos (by simp; omega), answers22 hk]
    rfl
end Go.Proofs.YtgfnkigoaajllaaGreat
