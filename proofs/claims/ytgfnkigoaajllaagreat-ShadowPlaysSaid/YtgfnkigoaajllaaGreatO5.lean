/- The law of ShadowPlays. -/
import Derived.Test.YtgfnkigoaajllaaGreatO4
set_option linter.unusedVariables false
set_option linter.unusedSimpArgs false
set_option maxRecDepth 100000
namespace Go.Proofs.YtgfnkigoaajllaaGreat
open Go.RowKit Go.Pod

theorem comC_mem {cs : List TChange} : ∀ {n : Nat} {bs : List (List TRule)} {l : List TRule}, l ∈ comC cs n bs → ∃ l0 ∈ bs, ∃ u : Int, l = layC l0 (forC cs u)
  | _, [], _, h => by cases h
  | n, b :: bs, l, h => by
    rcases List.mem_cons.1 h with rfl | h
    · exact ⟨b, List.mem_cons_self, _, rfl⟩
    · obtain ⟨l0, h0, u, e⟩ := comC_mem h
      exact ⟨l0, List.mem_cons_of_mem _ h0, u, e⟩
theorem gonC_mem {a : Tpodestalaw22_Act} : ∀ {n : Nat} {bs : List (List TRule)} {l : List TRule}, l ∈ gonC a n bs → ∃ l0 ∈ bs, l.Sublist l0
  | _, [], _, h => by cases h
  | n, b :: bs, l, h => by
    rcases List.mem_cons.1 h with rfl | h
    · refine ⟨b, List.mem_cons_self, ?_⟩
      split
      · exact lessK_sub _ _
      · exact List.Sublist.refl _
    · obtain ⟨l0, h0, e⟩ := gonC_mem h
      exact ⟨l0, List.mem_cons_of_mem _ h0, e⟩
theorem map_erase {α β : Type} (f : α → β) : ∀ (L : List α) (i : Nat), (L.eraseIdx i).map f = (L.map f).eraseIdx i
  | [], _ => rfl
  | a :: L, 0 => rfl
  | a :: L, i + 1 => by simp only [List.eraseIdx_cons_succ, List.map_cons, map_erase f L i]
theorem InvP.open {k N : Nat} {b : List (List TRule)} {L : List Tpodestalaw22_open} {n : Nat} {t : Int} {cs : List TChange} (h : InvP k N b L n) (hc : ∀ c ∈ cs, OkM k c.Mod) (hl : cs.length ≤ 10) (hn : L.findIdx? (fun o => o.txn == t) = none) : InvP k N b (L ++ [({ txn := t, l := cs } : Tpodestalaw22_open)]) (n + 1) := by
  have e : sumL ((L ++ [({ txn := t, l := cs } : Tpodestalaw22_open)]).map toO) = sumL (L.map toO) + cs.length := by
    rw [List.map_append, sumL_app]; rfl
  refine ⟨h.len, h.ok, h.tab, fun l hl => ?_, ?_, ?_, fun o ho => ?_, ?_⟩
  · have := h.size l hl; rw [e]; omega
  · have := h.sum; rw [e]; omega
  · rw [List.map_append, List.nodup_append]
    refine ⟨h.one, by simp, fun x hx y hy e => ?_⟩
    obtain ⟨o, ho, rfl⟩ := List.mem_map.1 hx
    rw [List.findIdx?_eq_none_iff] at hn
    have h1 := hn o ho
    simp only [List.map_cons, List.map_nil, List.mem_singleton] at hy
    rw [beq_eq_false_iff_ne] at h1
    exact h1 (by rw [e, hy])
  · rcases List.mem_append.1 ho with ho | ho
    · exact h.mods o ho
    · rw [List.mem_singleton] at ho; subst ho; exact hc
  · have := h.few
    rw [List.length_append, List.length_singleton]; omega
theorem InvP.shut {k N : Nat} {b : List (List TRule)} {L : List Tpodestalaw22_open} {n i : Nat} (h : InvP k N b L n) (hi : i < L.length) : InvP k N b (L.eraseIdx i) (n + 1) := by
  have e := sumL_erase (L.map toO) i (by simpa using hi)
  have e2 : (L.eraseIdx i).map toO = (L.map toO).eraseIdx i := map_erase ..
  refine ⟨h.len, h.ok, h.tab, fun l hl => ?_, ?_, ?_, fun o ho => h.mods o (List.mem_of_mem_eraseIdx ho), ?_⟩
  · have := h.size l hl; rw [e2]; omega
  · have := h.sum; rw [e2]; omega
  · rw [map_erase]; exact h.one.sublist (List.eraseIdx_sublist _ _)
  · have := h.few
    rw [List.length_eraseIdx_of_lt hi]; omega
theorem InvP.commit {k N : Nat} {b : List (List TRule)} {L : List Tpodestalaw22_open} {n i : Nat} (h : InvP k N b L n) (hi : i < L.length) : InvP k N (comC L[i].l 0 b) (L.eraseIdx i) (n + 1) := by
  have e := sumL_erase (L.map toO) i (by simpa using hi)
  have e2 : (L.eraseIdx i).map toO = (L.map toO).eraseIdx i := map_erase ..
  have e3 : ((L.map toO)[i]'(by simpa using hi)).list.length = L[i].l.length := by rw [List.getElem_map]; rfl
  have hs := h.shut hi
  refine ⟨by rw [comC_len]; exact h.len, fun l hl => ?_, fun l hl => ?_, fun l hl => ?_, hs.sum, hs.one, hs.mods, hs.few⟩ <;> obtain ⟨l0, h0, u, rfl⟩ := comC_mem hl
  · exact layC_ok _ _ (forC_ok (h.mods _ (List.getElem_mem hi))) (h.ok l0 h0)
  · exact layC_tab _ _ (h.tab l0 h0)
  · have h1 := layC_len (forC L[i].l u) l0
    have h2 := forC_len L[i].l u
    have h3 := h.size l0 h0
    rw [e2]; omega
theorem InvP.gone {k N : Nat} {b : List (List TRule)} {L : List Tpodestalaw22_open} {n : Nat} {a : Tpodestalaw22_Act} (h : InvP k N b L n) : InvP k N (gonC a 0 b) L (n + 1) := by
  have hm := h.mono
  refine ⟨by rw [gonC_len]; exact h.len, fun l hl r hr => ?_, fun l hl => ?_, fun l hl => ?_, hm.sum, h.one, h.mods, hm.few⟩ <;> obtain ⟨l0, h0, s⟩ := gonC_mem hl
  · exact h.ok l0 h0 r (s.subset hr)
  · exact (h.tab l0 h0).sub s
  · have h1 := s.length_le
    have h2 := h.size l0 h0
    omega
structure OkA (k : Nat) (a : Tpodestalaw22_Act) : Prop where
  mods : ∀ c ∈ a.L, OkM k c.Mod
theorem Plays_l0 {k : Nat} (hk : 2000 < k) {u0 : Int} {N : Nat} (hN : IntKind.i64.wrap (Int.tmod u0 4) = (N : Int)) (hN3 : N ≤ 3) {acts : List Tpodestalaw22_Act} (ha : ∀ a ∈ acts, OkA k a) (hal : acts.length ≤ 40) :
    ∀ (r n f : Nat) (b : List (List TRule)) (L : List Tpodestalaw22_open), n + r = acts.length → r < f → InvP k N b L n →
      ∃ b' L', law22_ShadowPlays.l0 k u0 acts f b (shP b L) L (n : Int) = some (.brk (shP b' L', L')) ∧ InvP k N b' L' 40
  | r, n, 0, _, _, _, h, _ => by omega
  | 0, n, f + 1, b, L, hn, _, hi => by
    refine ⟨b, L, ?_, ?_⟩
    · rw [law22_ShadowPlays.l0, if_neg (by simp only [decide_eq_true_eq]; omega)]
    · have : ∀ m, n ≤ m → InvP k N b L m := fun m hm => by
        induction hm with
        | refl => exact hi
        | step _ ih => exact ih.mono
      exact this 40 (by omega)
  | r + 1, n, f + 1, b, L, hn, hf, hi => by
    have h : n < acts.length := by omega
    have hA := ha _ (List.getElem_mem h)
    have hfew := hi.few
    have hopen : (shP b L).open_.length ≤ 1000 := by simp [shP]; omega
    have IH := fun b' L' (h' : InvP k N b' L' (n + 1)) => Plays_l0 hk hN hN3 ha hal r (n + 1) f b' L' (by omega) (by omega) h'
    have H2 := fun b' L' (h' : InvP k N b' L' (n + 1)) => Plays_l2_at hk hN hN3 h' (by omega)
    rw [law22_ShadowPlays.l0, if_pos (by simp only [decide_eq_true_eq]; omega), idx_nat h, Option.bind_some, inc n (by omega)]
    by_cases hg : (decide (10 < (acts[n].L.length : Int)) || decide (20 < (acts[n].Rule.Acts.length : Int))) = true
    · rw [if_pos hg, Option.bind_some]
      exact IH b L hi.mono
    rw [if_neg hg, Plays_at hi.one (by omega) (by omega), Option.bind_some]
    have h10 : acts[n].L.length ≤ 10 := by simp at hg; omega
    generalize acts[n] = a at hA h10 hg
    have hfm := findIdx_map L a.Txn
    have hbs : ∀ l ∈ (shP b L).base, (∀ r ∈ l, OkR k r) ∧ ∀ o ∈ (shP b L).open_, l.length + o.list.length ≤ 990 := fun l hl => ⟨hi.ok l hl, fun o ho => by
      have h1 := hi.size l hl
      have h2 := sumL_mem _ o ho
      have h2' : o.list.length ≤ sumL (L.map toO) := h2
      omega⟩
    have hcl : ∀ o ∈ (shP b L).open_, o.list.length ≤ 900 := fun o ho => by
      have h2 := sumL_mem _ o ho
      have h2' : o.list.length ≤ sumL (L.map toO) := h2
      have := hi.sum
      omega
    have hbl : b.length ≤ 1000 := by rw [hi.len]; omega
    by_cases h0 : a.What = 0
    · have hB := Begin_at hk (s := shP b L) (id := a.Txn) (cs := a.L) hopen (by omega)
      have hany : (shP b L).open_.any (fun o => o.id == a.Txn) = decide (0 ≤ atP L a.Txn) := by
        unfold atP
        show (L.map toO).any (fun o => o.id == a.Txn) = _
        rw [← hfm]
        cases hf : (L.map toO).findIdx? (fun o => o.id == a.Txn) with
        | none =>
          rw [List.findIdx?_eq_none_iff] at hf
          have : (L.map toO).any (fun o => o.id == a.Txn) = false := by rw [List.any_eq_false]; intro x hx; rw [hf x hx]; simp
          rw [this]; rfl
        | some i =>
          rw [List.findIdx?_eq_some_iff_getElem] at hf
          obtain ⟨hi', hp, _⟩ := hf
          rw [List.any_eq_true.2 ⟨_, List.getElem_mem hi', hp⟩]
          simp
      rw [if_pos (by simp [h0]), Plays_l4_at hN h10 hk, Option.bind_some, hB, hany, show (shP b L).base.length = N from hi.len]
      by_cases hat : 0 ≤ atP L a.Txn
      · have d : decide (0 ≤ atP L a.Txn) = true := by simpa using hat
        simp only [d, if_true, Option.bind_some, show ((5 : Int) != 5) = false from rfl, show ((5 : Int) == 0) = false from rfl, Bool.false_eq_true, if_false]
        rw [H2 b L hi.mono]
        exact IH b L hi.mono
      · have d : decide (0 ≤ atP L a.Txn) = false := by simpa using hat
        simp only [d, Bool.false_eq_true, if_false, Option.bind_some]
        cases ho : a.L.any (outB N)
        · simp only [Bool.false_eq_true, if_false, show ((0 : Int) != 0) = false from rfl, show ((0 : Int) == 0) = true from rfl, if_true]
          have hno : L.findIdx? (fun o => o.txn == a.Txn) = none := by
            unfold atP at hat
            cases hx : L.findIdx? (fun o => o.txn == a.Txn) with
            | none => rfl
            | some i => rw [hx] at hat; simp at hat
          have hi' := hi.open hA.mods h10 hno
          rw [app_some (by rw [List.length_singleton]; omega)]
          simp only [Option.bind_some]
          have es : ({ shP b L with open_ := (shP b L).open_ ++ [{ id := a.Txn, list := a.L }] } : Tshadow_Shadow) = shP b (L ++ [{ txn := a.Txn, l := a.L }]) := by
            unfold shP; rw [List.map_append]; rfl
          rw [es, H2 _ _ hi']
          exact IH _ _ hi'
        · simp only [if_true, show ((1 : Int) != 1) = false from rfl, show ((1 : Int) == 0) = false from rfl, Bool.false_eq_true, if_false, Option.bind_some]
          rw [H2 b L hi.mono]
          exact IH b L hi.mono
    · rw [if_neg (by simpa using h0)]
      have hor : ((if (a.What == 1) = true then some (a.What == 1) else some (a.What == 2)) : Option Bool) = some (a.What == 1 || a.What == 2) := by
        cases a.What == 1 <;> rfl
      rw [hor, Option.bind_some]
      by_cases h12 : (a.What == 1 || a.What == 2) = true
      · rw [if_pos h12]
        have hC := Commit_at hk (s := shP b L) (id := a.Txn) hopen hi.mods' hcl hbs hbl
        have hAb := Abort_at hk (s := shP b L) (id := a.Txn) hopen
        rw [show (shP b L).open_.findIdx? (fun o => o.id == a.Txn) = L.findIdx? (fun o => o.txn == a.Txn) from hfm] at hC hAb
        unfold atP
        cases hx : L.findIdx? (fun o => o.txn == a.Txn) with
        | none =>
          rw [hx] at hC hAb
          dsimp only at hC hAb ⊢
          obtain ⟨g, hg'⟩ : ∃ g, k = g + 1 := ⟨k - 1, by omega⟩
          have h5 : law22_ShadowPlays.l5 k u0 L a (-1) k b 0 = some b := by
            have := Plays_l5_no (k := k) (u0 := u0) (a := a) (L := L) (x := -1) (by omega) b g
            rwa [← hg'] at this
          have e1 : ((if (a.What == 1) = true then ((shadow_Shadow_Commit k (shP b L) a.Txn).bind fun x349 => some (x349.1, x349.2)) else ((shadow_Shadow_Abort k (shP b L) a.Txn).bind fun x355 => some (x355.1, x355.2))) : Option (Tshadow_Shadow × Int)) = some (shP b L, 4) := by
            rw [hC, hAb]; cases a.What == 1 <;> rfl
          rw [e1]
          simp only [show decide ((-1 : Int) < 0) = true from rfl, if_true, Option.bind_some, show ((4 : Int) != 4) = false from rfl, Bool.false_eq_true, if_false]
          rw [h5]
          simp only [Option.bind_some, show decide ((0 : Int) ≤ -1) = false from rfl, Bool.false_eq_true, if_false]
          rw [H2 b L hi.mono]
          exact IH b L hi.mono
        | some i =>
          rw [hx] at hC hAb
          have hil : i < L.length := by
            rw [List.findIdx?_eq_some_iff_getElem] at hx
            exact hx.1
          dsimp only at hC hAb ⊢
          have eo : (shP b L).open_[i]? = some (toO L[i]) := by
            show (L.map toO)[i]? = _
            rw [List.getElem?_map, List.getElem?_eq_getElem hil]; rfl
          have ee : (shP b L).open_.eraseIdx i = (L.eraseIdx i).map toO := (map_erase ..).symm
          rw [eo, Option.getD_some, ee] at hC
          rw [ee] at hAb
          have d1 : decide ((i : Int) < 0) = false := by simp
          have d2 : decide ((0 : Int) ≤ (i : Int)) = true := by simp
          have hiw : IntKind.i64.wrap ((i : Int) + 1) = ((i + 1 : Nat) : Int) := inc i (by omega)
          have hE : ([] ++ (L.take (i : Int).toNat).drop 0) ++ (L.take L.length).drop (IntKind.i64.wrap ((i : Int) + 1)).toNat = L.eraseIdx i := by rw [hiw]; simp [List.eraseIdx_eq_take_drop_succ]
          by_cases h1 : a.What = 1
          · have hi' := hi.commit hil
            have hmod := hi.mods _ (List.getElem_mem hil)
            have hLl : L[i].l.length ≤ 900 := hcl (toO L[i]) (List.mem_map_of_mem (List.getElem_mem hil))
            have h5 := Plays_l5 hk hN hil h1 hmod hLl hi.len hN3 (fun l hl => ⟨hi.ok l hl, (hbs l hl).2 (toO L[i]) (List.mem_map_of_mem (List.getElem_mem hil))⟩) N 0 k (by omega) (by omega)
            rw [List.take_zero, List.drop_zero] at h5
            have h5' : law22_ShadowPlays.l5 k u0 L a (i : Int) k b 0 = some (comC L[i].l 0 b) := h5
            have e1 : ((if (a.What == 1) = true then ((shadow_Shadow_Commit k (shP b L) a.Txn).bind fun x349 => some (x349.1, x349.2)) else ((shadow_Shadow_Abort k (shP b L) a.Txn).bind fun x355 => some (x355.1, x355.2))) : Option (Tshadow_Shadow × Int)) = some (shP (comC L[i].l 0 b) (L.eraseIdx i), 0) := by
              rw [if_pos (by simp [h1]), hC]; rfl
            rw [e1]
            simp only [d1, d2, Bool.false_eq_true, if_false, if_true, Option.bind_some, show ((0 : Int) != 0) = false from rfl]
            rw [h5', Option.bind_some, if_pos (by omega), if_pos (by rw [hiw]; omega), app_some (by simp; omega), Option.bind_some, app_some (by simp; omega), Option.bind_some, hE]
            simp only [Option.bind_some]
            rw [H2 _ _ hi']
            exact IH _ _ hi'
          · have hi' := hi.shut hil
            obtain ⟨g, hg'⟩ : ∃ g, k = g + 1 := ⟨k - 1, by omega⟩
            have h5 : law22_ShadowPlays.l5 k u0 L a (i : Int) k b 0 = some b := by
              have := Plays_l5_no (k := k) (u0 := u0) (a := a) (L := L) (x := (i : Int)) (by omega) b g
              rwa [← hg'] at this
            have e1 : ((if (a.What == 1) = true then ((shadow_Shadow_Commit k (shP b L) a.Txn).bind fun x349 => some (x349.1, x349.2)) else ((shadow_Shadow_Abort k (shP b L) a.Txn).bind fun x355 => some (x355.1, x355.2))) : Option (Tshadow_Shadow × Int)) = some (shP b (L.eraseIdx i), 0) := by
              rw [if_neg (by simpa using h1), hAb]; rfl
            rw [e1]
            simp only [d1, d2, Bool.false_eq_true, if_false, if_true, Option.bind_some, show ((0 : Int) != 0) = false from rfl]
            rw [h5, Option.bind_some, if_pos (by omega), if_pos (by rw [hiw]; omega), app_some (by simp; omega), Option.bind_some, app_some (by simp; omega), Option.bind_some, hE]
            simp only [Option.bind_some]
            rw [H2 _ _ hi']
            exact IH _ _ hi'
      · rw [if_neg h12]
        have hlen : ∀ l ∈ b, l.length ≤ 1000 := fun l hl => by have := hi.size l hl; omega
        have hG := Gone_at hk (b := b) (os := L.map toO) (a := a) (fun l hl => ⟨hi.ok l hl, hi.tab l hl, hlen l hl⟩) hbl
        have hG' : shadow_Shadow_Gone k (shP b L) a.Unit a.Rule = some (shP (gonC a 0 b) L, thereC a N b) := by rw [← hi.len]; exact hG
        rw [Plays_l6_at hk hN hi.len hN3 hlen, Option.bind_some]
        dsimp only
        rw [hG', Option.bind_some]
        dsimp only
        rw [if_neg (by simp)]
        simp only [Option.bind_some]
        have hi' := hi.gone (a := a)
        rw [H2 _ _ hi']
        exact IH _ _ hi'
theorem Open_l0 (k : Nat) {s : Tshadow_Shadow} (hl : s.open_.length ≤ 1000) : ∀ (r n f : Nat) (out : List Int), n + r = s.open_.length → r < f → out.length ≤ n → shadow_Shadow_Open.l0 k s f out (n : Int) = some (out ++ (s.open_.drop n).map (·.id))
  | r, n, 0, _, _, h, _ => by omega
  | 0, n, f + 1, out, hn, _, _ => by
    rw [shadow_Shadow_Open.l0, if_neg (by simp only [decide_eq_true_eq]; omega), List.drop_eq_nil_of_le (by omega)]; simp
  | r + 1, n, f + 1, out, hn, hf, ho => by
    have h : n < s.open_.length := by omega
    rw [shadow_Shadow_Open.l0, if_pos (by simp only [decide_eq_true_eq]; omega), idx_nat h, Option.bind_some, app_some (by rw [List.length_singleton]; omega), Option.bind_some, inc n (by omega),
      Open_l0 k hl r (n + 1) f _ (by omega) (by omega) (by rw [List.length_append, List.length_singleton]; omega), List.drop_eq_getElem_cons h, List.map_cons, List.append_assoc]
    rfl
theorem Open_at {k : Nat} (hk : 2000 < k) {s : Tshadow_Shadow} (hl : s.open_.length ≤ 1000) : ∃ o, shadow_Shadow_Open k s = some o ∧ o.length = s.open_.length := by
  unfold shadow_Shadow_Open
  have h0 := Open_l0 k hl s.open_.length 0 k [] (by omega) (by omega) (by simp)
  rw [show ((0 : Nat) : Int) = 0 from rfl, List.drop_zero, List.nil_append] at h0
  rw [if_neg (by decide), h0, Option.bind_some]
  unfold slices_Sort_int sortI
  rw [if_pos (by rw [List.length_map]; omega), Option.bind_some]
  exact ⟨_, rfl, by rw [List.length_mergeSort, List.length_map]⟩
theorem law_ShadowPlays {k : Nat} (hk : 2000 < k) {u0 : Int} (hu : 0 ≤ u0) {acts : List Tpodestalaw22_Act} (ha : ∀ a ∈ acts, OkA k a) : law22_ShadowPlays k u0 acts = some true := by
  unfold law22_ShadowPlays
  by_cases hl : acts.length ≤ 40
  · obtain ⟨N, hN3, hN⟩ : ∃ N : Nat, N ≤ 3 ∧ IntKind.i64.wrap (Int.tmod u0 4) = (N : Int) := by
      have h1 : Int.tmod u0 4 = u0 % 4 := Int.tmod_eq_emod_of_nonneg hu
      refine ⟨(u0 % 4).toNat, by omega, ?_⟩
      rw [h1, wrapI (by omega) (by omega)]; omega
    have hm : mkS 24 ([] : List TRule) (N : Int) = some (List.replicate N []) := by
      unfold mkS
      rw [if_pos (by omega), Int.toNat_natCast]
    rw [if_neg (by simp; omega), hN, New_at N (by omega), Option.bind_some, hm, Option.bind_some]
    have hi : InvP k N (List.replicate N []) [] 0 := by
      have e : ∀ l ∈ List.replicate N ([] : List TRule), l = [] := fun l hl => List.eq_of_mem_replicate hl
      refine ⟨List.length_replicate, fun l hl => ?_, fun l hl => ?_, fun l hl => ?_, by simp [sumL], by simp, by simp, by simp⟩ <;> rw [e l hl]
      · simp
      · exact ⟨by simp, by simp⟩
      · simp [sumL]
    obtain ⟨b', L', h0, hI⟩ := Plays_l0 hk hN hN3 ha hl acts.length 0 k _ [] (by omega) (by omega) hi
    have h0' : law22_ShadowPlays.l0 k u0 acts k (List.replicate N []) { base := List.replicate N [], open_ := [] } [] 0 = some (.brk (shP b' L', L')) := h0
    have hf := hI.few
    obtain ⟨o, ho, hol⟩ := Open_at hk (s := shP b' L') (by simp [shP]; omega)
    rw [h0', Option.bind_some]
    dsimp only
    rw [answers22 hk, Option.bind_some, if_pos rfl, ho, Option.bind_some, hol]
    simp [shP]
  · rw [if_pos (by simp; omega), answers22 hk]
    rfl
end Go.Proofs.YtgfnkigoaajllaaGreat
