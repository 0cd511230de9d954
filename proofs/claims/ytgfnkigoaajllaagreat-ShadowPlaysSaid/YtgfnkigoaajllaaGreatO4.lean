/- The law of ShadowPlays: what the program answers. -/
import Derived.Test.YtgfnkigoaajllaaGreatO3
set_option linter.unusedVariables false
set_option linter.unusedSimpArgs false
set_option maxRecDepth 100000
namespace Go.Proofs.YtgfnkigoaajllaaGreat
open Go.RowKit Go.Pod

def toO (l : Tpodestalaw22_open) : Tshadow_open := { id := l.txn, list := l.l }
def shP (b : List (List TRule)) (L : List Tpodestalaw22_open) : Tshadow_Shadow := { base := b, open_ := L.map toO }
theorem sumL_app : ∀ (a b : List Tshadow_open), sumL (a ++ b) = sumL a + sumL b
  | [], b => by simp [sumL]
  | o :: a, b => by rw [List.cons_append, sumL, sumL, sumL_app a b]; omega
theorem sumL_erase : ∀ (a : List Tshadow_open) (i : Nat) (h : i < a.length), sumL (a.eraseIdx i) + a[i].list.length = sumL a
  | o :: a, 0, _ => by simp [sumL]; omega
  | o :: a, i + 1, h => by
    have := sumL_erase a i (by simpa using h)
    rw [List.eraseIdx_cons_succ, sumL, sumL, List.getElem_cons_succ]; omega
theorem sumL_mem : ∀ (a : List Tshadow_open) (o : Tshadow_open), o ∈ a → o.list.length ≤ sumL a
  | p :: a, o, h => by
    rw [sumL]
    rcases List.mem_cons.1 h with rfl | h
    · omega
    · have := sumL_mem a o h; omega
structure InvP (k N : Nat) (b : List (List TRule)) (L : List Tpodestalaw22_open) (n : Nat) : Prop where
  len : b.length = N
  ok : ∀ l ∈ b, ∀ r ∈ l, OkR k r
  tab : ∀ l ∈ b, TabOK l
  size : ∀ l ∈ b, l.length + sumL (L.map toO) ≤ 10 * n
  sum : sumL (L.map toO) ≤ 10 * n
  one : (L.map (·.txn)).Nodup
  mods : ∀ o ∈ L, ∀ c ∈ o.l, OkM k c.Mod
  few : L.length ≤ n
theorem InvP.mono {k N : Nat} {b : List (List TRule)} {L : List Tpodestalaw22_open} {n : Nat} (h : InvP k N b L n) : InvP k N b L (n + 1) :=
  ⟨h.len, h.ok, h.tab, fun l hl => by have := h.size l hl; omega, by have := h.sum; omega, h.one, h.mods, by have := h.few; omega⟩
theorem InvP.mods' {k N : Nat} {b : List (List TRule)} {L : List Tpodestalaw22_open} {n : Nat} (h : InvP k N b L n) : ∀ o ∈ (shP b L).open_, ∀ c ∈ o.list, OkM k c.Mod := fun o ho => by
  obtain ⟨x, hx, rfl⟩ := List.mem_map.1 ho
  exact h.mods x hx
theorem findIdx_map (L : List Tpodestalaw22_open) (t : Int) : (L.map toO).findIdx? (fun o => o.id == t) = L.findIdx? fun o => o.txn == t := by
  rw [List.findIdx?_map]; rfl
/-- The place of one that is open. -/
def atP (L : List Tpodestalaw22_open) (t : Int) : Int := match L.findIdx? (fun o => o.txn == t) with | some i => (i : Int) | none => -1
theorem Plays_l1 (k : Nat) {L : List Tpodestalaw22_open} {a : Tpodestalaw22_Act} (h1 : (L.map (·.txn)).Nodup) (hl : L.length < 2 ^ 60) : ∀ (r n f : Nat) (acc : Int), n + r = L.length → r < f →
    law22_ShadowPlays.l1 k L a f acc (n : Int) = some (match (L.drop n).findIdx? (fun o => o.txn == a.Txn) with | some i => ((n + i : Nat) : Int) | none => acc)
  | r, n, 0, _, _, h => by omega
  | 0, n, f + 1, acc, hn, _ => by
    rw [law22_ShadowPlays.l1, if_neg (by simp only [decide_eq_true_eq]; omega), List.drop_eq_nil_of_le (by omega)]; rfl
  | r + 1, n, f + 1, acc, hn, hf => by
    have h : n < L.length := by omega
    rw [law22_ShadowPlays.l1, if_pos (by simp only [decide_eq_true_eq]; omega), idx_nat h, Option.bind_some, inc n (by omega), List.drop_eq_getElem_cons h, List.findIdx?_cons]
    cases hb : L[n].txn == a.Txn
    · simp only [Bool.false_eq_true, if_false, Option.bind_some]
      rw [Plays_l1 k h1 hl r (n + 1) f acc (by omega) (by omega)]
      cases (L.drop (n + 1)).findIdx? (fun o => o.txn == a.Txn) with
      | none => rfl
      | some i => simp only [Option.map_some]; rw [show n + 1 + i = n + (i + 1) by omega]
    · simp only [if_true, Option.bind_some]
      rw [Plays_l1 k h1 hl r (n + 1) f (n : Int) (by omega) (by omega)]
      have hno : (L.drop (n + 1)).findIdx? (fun o => o.txn == a.Txn) = none := by
        rw [List.findIdx?_eq_none_iff]
        intro x hx
        have h2 : (L.drop n).Pairwise fun x y => x.txn ≠ y.txn := by
          have := (List.pairwise_map.1 h1)
          exact this.sublist (List.drop_sublist n L)
        rw [List.drop_eq_getElem_cons h, List.pairwise_cons] at h2
        have h3 := h2.1 x hx
        rw [beq_iff_eq] at hb
        rw [beq_eq_false_iff_ne]
        intro e
        exact h3 (by rw [hb, e])
      rw [hno]
      simp
theorem Plays_at {k : Nat} {L : List Tpodestalaw22_open} {a : Tpodestalaw22_Act} (h1 : (L.map (·.txn)).Nodup) (hl : L.length < 2 ^ 60) (hk : L.length < k) : law22_ShadowPlays.l1 k L a k (-1) 0 = some (atP L a.Txn) := by
  have h0 := Plays_l1 k (a := a) h1 hl L.length 0 k (-1) (by omega) hk
  rw [show ((0 : Nat) : Int) = 0 from rfl, List.drop_zero] at h0
  rw [h0]
  unfold atP
  cases L.findIdx? (fun o => o.txn == a.Txn) <;> simp
theorem Plays_l4 (k : Nat) {u0 : Int} {N : Nat} (hN : IntKind.i64.wrap (Int.tmod u0 4) = (N : Int)) {a : Tpodestalaw22_Act} (hl : a.L.length < 2 ^ 60) : ∀ (r n f : Nat) (acc : Int), n + r = a.L.length → r < f →
    law22_ShadowPlays.l4 k u0 a f acc (n : Int) = some (if (a.L.drop n).any (outB N) then 1 else acc)
  | r, n, 0, _, _, h => by omega
  | 0, n, f + 1, acc, hn, _ => by
    rw [law22_ShadowPlays.l4, if_neg (by simp only [decide_eq_true_eq]; omega), List.drop_eq_nil_of_le (by omega)]; rfl
  | r + 1, n, f + 1, acc, hn, hf => by
    have h : n < a.L.length := by omega
    rw [law22_ShadowPlays.l4, if_pos (by simp only [decide_eq_true_eq]; omega), idx_nat h, Option.bind_some, inc n (by omega), List.drop_eq_getElem_cons h, List.any_cons, hN]
    rw [show (decide (a.L[n].Unit < 0) || decide ((N : Int) ≤ a.L[n].Unit)) = outB N a.L[n] from rfl]
    cases outB N a.L[n]
    · simp only [Bool.false_eq_true, if_false, Option.bind_some, Bool.false_or]
      exact Plays_l4 k hN hl r (n + 1) f acc (by omega) (by omega)
    · simp only [if_true, Option.bind_some, Bool.true_or]
      rw [Plays_l4 k hN hl r (n + 1) f 1 (by omega) (by omega)]
      simp
theorem Plays_l4_at {k : Nat} {u0 : Int} {N : Nat} (hN : IntKind.i64.wrap (Int.tmod u0 4) = (N : Int)) {a : Tpodestalaw22_Act} (hl : a.L.length ≤ 10) (hk : 2000 < k) : law22_ShadowPlays.l4 k u0 a k 0 0 = some (if a.L.any (outB N) then 1 else 0) := by
  have h0 := Plays_l4 k hN (a := a) (by omega) a.L.length 0 k 0 (by omega) (by omega)
  rw [show ((0 : Nat) : Int) = 0 from rfl, List.drop_zero] at h0
  exact h0
theorem Plays_l5 {k : Nat} (hk : 2000 < k) {u0 : Int} {N : Nat} (hN : IntKind.i64.wrap (Int.tmod u0 4) = (N : Int)) {a : Tpodestalaw22_Act} {L : List Tpodestalaw22_open} {i : Nat} (hi : i < L.length) (hw : a.What = 1) (hc : ∀ c ∈ L[i].l, OkM k c.Mod) (hcl : L[i].l.length ≤ 900)
    {bs : List (List TRule)} (hbn : bs.length = N) (hN3 : N ≤ 3) (hb : ∀ l ∈ bs, (∀ r ∈ l, OkR k r) ∧ l.length + L[i].l.length ≤ 990) : ∀ (r n f : Nat), n + r = N → r < f →
    law22_ShadowPlays.l5 k u0 L a (i : Int) f (comC L[i].l 0 (bs.take n) ++ bs.drop n) (n : Int) = some (comC L[i].l 0 bs)
  | r, n, 0, _, h => by omega
  | 0, n, f + 1, hn, _ => by
    rw [law22_ShadowPlays.l5, hN, if_neg (by simp; omega), List.drop_eq_nil_of_le (by omega), List.take_of_length_le (by omega), List.append_nil]
  | r + 1, n, f + 1, hn, hf => by
    have h : n < bs.length := by omega
    obtain ⟨e1, e2⟩ := com_step (cs := L[i].l) h
    have hbn' := hb _ (List.getElem_mem h)
    have hfl := forC_len L[i].l (n : Int)
    rw [law22_ShadowPlays.l5, hN, if_pos (by simp [hw]; omega), idx_of e1, Option.bind_some, idx_nat hi, Option.bind_some, refFor_at hk (by omega), Option.bind_some, refLaid_at hk (forC_ok (u := (n : Int)) hc) hbn'.1 (by omega), Option.bind_some, inc n (by omega)]
    simp only [Int.toNat_natCast]
    rw [e2]
    exact Plays_l5 hk hN hi hw hc hcl hbn hN3 hb r (n + 1) f (by omega) (by omega)
theorem Plays_l5_no {k : Nat} {u0 : Int} {a : Tpodestalaw22_Act} {L : List Tpodestalaw22_open} {x : Int} (h : ¬ (0 ≤ x ∧ a.What = 1)) (bs : List (List TRule)) (f : Nat) : law22_ShadowPlays.l5 k u0 L a x (f + 1) bs 0 = some bs := by
  rw [law22_ShadowPlays.l5, if_neg]
  simp only [Bool.and_eq_true, decide_eq_true_eq, beq_iff_eq]
  rintro ⟨⟨_, h1⟩, h2⟩
  exact h ⟨h1, h2⟩
/-- A table without the rules of one key. -/
def lessK (r : TRule) (l : List TRule) : List TRule := l.filter fun x => !keyB x r
theorem lessK_one {r : TRule} : ∀ {l : List TRule}, l.Pairwise (fun a b => beB a b = true) → lessK r l = match l.findIdx? (fun x => keyB x r) with | some i => l.eraseIdx i | none => l
  | [], _ => rfl
  | a :: l, h => by
    rw [List.pairwise_cons] at h
    unfold lessK
    rw [List.findIdx?_cons, List.filter_cons]
    cases hk : keyB a r
    · have ih := lessK_one (r := r) h.2
      unfold lessK at ih
      simp only [Bool.not_false, if_true, Bool.false_eq_true, if_false]
      rw [ih]
      cases l.findIdx? (fun x => keyB x r) <;> rfl
    · simp only [Bool.not_true, Bool.false_eq_true, if_false, if_true, List.eraseIdx_cons_zero]
      rw [List.filter_eq_self]
      intro x hx
      have h1 := beB_key (h.1 x hx)
      cases hx : keyB x r
      · rfl
      · rw [keyB_iff] at hk hx
        rw [keyB_iff.2 ⟨hk.1.trans hx.1.symm, hk.2.trans hx.2.symm⟩] at h1
        cases h1
theorem lessK_sub (r : TRule) (l : List TRule) : (lessK r l).Sublist l := List.filter_sublist
theorem Plays_l7 (k : Nat) {a : Tpodestalaw22_Act} {bs : List (List TRule)} {u : Int} {l : List TRule} (hu : idx bs u = some l) (hl : l.length ≤ 1000) : ∀ (r n f : Nat) (b : Bool) (out : List TRule), n + r = l.length → r < f → out.length ≤ n →
    law22_ShadowPlays.l7 k a bs u f b out (n : Int) = some (b || (u == a.Unit && (l.drop n).any fun x => keyB x a.Rule), out ++ if u == a.Unit then lessK a.Rule (l.drop n) else l.drop n)
  | r, n, 0, _, _, _, h, _ => by omega
  | 0, n, f + 1, b, out, hn, _, _ => by
    rw [law22_ShadowPlays.l7, hu, Option.bind_some, if_neg (by simp only [decide_eq_true_eq]; omega), List.drop_eq_nil_of_le (by omega)]
    cases u == a.Unit <;> simp [lessK]
  | r + 1, n, f + 1, b, out, hn, hf, ho => by
    have h : n < l.length := by omega
    rw [law22_ShadowPlays.l7, hu, Option.bind_some, if_pos (by simp only [decide_eq_true_eq]; omega), idx_nat h, inc n (by omega), List.drop_eq_getElem_cons h, List.any_cons]
    have hap : app 272 out [l[n]] = some (out ++ [l[n]]) := app_some (by rw [List.length_singleton]; omega)
    cases hx : u == a.Unit
    · simp only [Bool.false_eq_true, if_false, Option.bind_some, hap, Bool.false_and, Bool.or_false]
      rw [Plays_l7 k hu hl r (n + 1) f b _ (by omega) (by omega) (by rw [List.length_append, List.length_singleton]; omega), hx]
      simp
    · simp only [if_true, Option.bind_some, Bool.true_and]
      rw [ref04_Key_at, Option.bind_some, Option.bind_some]
      unfold lessK
      rw [List.filter_cons]
      cases hk : keyB l[n] a.Rule
      · simp only [Bool.false_eq_true, if_false, Option.bind_some, hap, Bool.false_or, Bool.not_false, if_true]
        rw [Plays_l7 k hu hl r (n + 1) f b _ (by omega) (by omega) (by rw [List.length_append, List.length_singleton]; omega), hx]
        simp [lessK]
      · simp only [if_true, Option.bind_some, Bool.true_or, Bool.or_true, Bool.not_true, Bool.false_eq_true, if_false]
        rw [Plays_l7 k hu hl r (n + 1) f true _ (by omega) (by omega) (by omega), hx]
        simp [lessK]
/-- The tables behind a lapse. -/
def gonC (a : Tpodestalaw22_Act) : Nat → List (List TRule) → List (List TRule)
  | _, [] => []
  | n, l :: bs => (if (n : Int) == a.Unit then lessK a.Rule l else l) :: gonC a (n + 1) bs
theorem gonC_len (a : Tpodestalaw22_Act) : ∀ (n : Nat) (bs : List (List TRule)), (gonC a n bs).length = bs.length
  | _, [] => rfl
  | n, l :: bs => by rw [gonC, List.length_cons, List.length_cons, gonC_len a (n + 1) bs]
theorem gonC_app (a : Tpodestalaw22_Act) : ∀ (n : Nat) (xs bs : List (List TRule)), gonC a n (xs ++ bs) = gonC a n xs ++ gonC a (n + xs.length) bs
  | n, [], bs => rfl
  | n, x :: xs, bs => by rw [List.cons_append, gonC, gonC, gonC_app a (n + 1) xs bs, List.cons_append, List.length_cons, show n + 1 + xs.length = n + (xs.length + 1) by omega]
theorem gonC_get (a : Tpodestalaw22_Act) : ∀ (n : Nat) (bs : List (List TRule)) (i : Nat), (gonC a n bs)[i]? = (bs[i]?).map fun l => if ((n + i : Nat) : Int) == a.Unit then lessK a.Rule l else l
  | n, [], i => rfl
  | n, l :: bs, 0 => rfl
  | n, l :: bs, i + 1 => by rw [gonC, List.getElem?_cons_succ, List.getElem?_cons_succ, gonC_get a (n + 1) bs i, show n + 1 + i = n + (i + 1) by omega]
theorem gon_step {a : Tpodestalaw22_Act} {bs : List (List TRule)} {n : Nat} (h : n < bs.length) :
    (gonC a 0 (bs.take n) ++ bs.drop n)[n]? = some bs[n] ∧ (gonC a 0 (bs.take n) ++ bs.drop n).set n (if (n : Int) == a.Unit then lessK a.Rule bs[n] else bs[n]) = gonC a 0 (bs.take (n + 1)) ++ bs.drop (n + 1) := by
  have hl : (gonC a 0 (bs.take n)).length = n := by rw [gonC_len, List.length_take]; omega
  constructor
  · rw [List.getElem?_append_right (by omega), hl, Nat.sub_self, List.getElem?_drop, Nat.add_zero, List.getElem?_eq_getElem h]
  · rw [List.set_append_right _ _ (by omega), hl, Nat.sub_self, List.drop_eq_getElem_cons h, List.set_cons_zero, List.take_succ_eq_append_getElem h, gonC_app, List.append_assoc]
    rw [List.length_take, Nat.zero_add, Nat.min_eq_left (by omega)]
    rfl
def thereC (a : Tpodestalaw22_Act) (n : Nat) (bs : List (List TRule)) : Bool := (List.range' 0 n).any fun i => (i : Int) == a.Unit && ((bs[i]?).getD []).any fun x => keyB x a.Rule
theorem thereC_succ (a : Tpodestalaw22_Act) (n : Nat) (bs : List (List TRule)) : thereC a (n + 1) bs = (thereC a n bs || ((n : Int) == a.Unit && ((bs[n]?).getD []).any fun x => keyB x a.Rule)) := by
  unfold thereC
  rw [List.range'_concat, List.any_append]
  simp
theorem Plays_l6 {k : Nat} (hk : 2000 < k) {u0 : Int} {N : Nat} (hN : IntKind.i64.wrap (Int.tmod u0 4) = (N : Int)) {a : Tpodestalaw22_Act} {bs : List (List TRule)} (hbn : bs.length = N) (hN3 : N ≤ 3) (hb : ∀ l ∈ bs, l.length ≤ 1000) : ∀ (r n f : Nat), n + r = N → r < f →
    law22_ShadowPlays.l6 k u0 a f (gonC a 0 (bs.take n) ++ bs.drop n) (thereC a n bs) (n : Int) = some (gonC a 0 bs, thereC a N bs)
  | r, n, 0, _, h => by omega
  | 0, n, f + 1, hn, _ => by
    obtain rfl : n = N := by omega
    rw [law22_ShadowPlays.l6, hN, if_neg (by simp), List.drop_eq_nil_of_le (by omega), List.take_of_length_le (by omega), List.append_nil]
  | r + 1, n, f + 1, hn, hf => by
    have h : n < bs.length := by omega
    obtain ⟨e1, e2⟩ := gon_step (a := a) h
    have hbn' := hb _ (List.getElem_mem h)
    have h7 := Plays_l7 k (a := a) (idx_of e1) hbn' bs[n].length 0 k (thereC a n bs) [] (by omega) (by omega) (by simp)
    rw [show ((0 : Nat) : Int) = 0 from rfl, List.drop_zero, List.nil_append] at h7
    rw [law22_ShadowPlays.l6, hN, if_pos (by simp; omega), h7, Option.bind_some]
    dsimp only
    rw [idx_of e1, Option.bind_some, inc n (by omega), Int.toNat_natCast, e2]
    have ht : (thereC a n bs || ((n : Int) == a.Unit && bs[n].any fun x => keyB x a.Rule)) = thereC a (n + 1) bs := by rw [thereC_succ, List.getElem?_eq_getElem h]; rfl
    rw [ht]
    exact Plays_l6 hk hN hbn hN3 hb r (n + 1) f (by omega) (by omega)
theorem Plays_l6_at {k : Nat} (hk : 2000 < k) {u0 : Int} {N : Nat} (hN : IntKind.i64.wrap (Int.tmod u0 4) = (N : Int)) {a : Tpodestalaw22_Act} {bs : List (List TRule)} (hbn : bs.length = N) (hN3 : N ≤ 3) (hb : ∀ l ∈ bs, l.length ≤ 1000) :
    law22_ShadowPlays.l6 k u0 a k bs false 0 = some (gonC a 0 bs, thereC a N bs) := by
  have h0 := Plays_l6 hk hN (a := a) hbn hN3 hb N 0 k (by omega) (by omega)
  rw [List.take_zero, List.drop_zero] at h0
  exact h0
theorem Gone_at {k : Nat} (hk : 2000 < k) {b : List (List TRule)} {os : List Tshadow_open} {a : Tpodestalaw22_Act} (hb : ∀ l ∈ b, (∀ r ∈ l, OkR k r) ∧ TabOK l ∧ l.length ≤ 1000) (hbl : b.length ≤ 1000) :
    shadow_Shadow_Gone k { base := b, open_ := os } a.Unit a.Rule = some ({ base := gonC a 0 b, open_ := os }, thereC a b.length b) := by
  unfold shadow_Shadow_Gone
  by_cases hu : 0 ≤ a.Unit ∧ a.Unit < b.length
  · obtain ⟨n, hn⟩ := Int.eq_ofNat_of_zero_le hu.1
    have hnl : n < b.length := by omega
    obtain ⟨h1, h2, h3⟩ := hb _ (List.getElem_mem hnl)
    have hth : thereC a b.length b = b[n].any fun x => keyB x a.Rule := by
      unfold thereC
      rw [Bool.eq_iff_iff, List.any_eq_true]
      constructor
      · rintro ⟨i, hi, e⟩
        rw [Bool.and_eq_true_iff, beq_iff_eq, hn] at e
        obtain rfl : i = n := by omega
        rw [List.getElem?_eq_getElem hnl] at e
        exact e.2
      · intro e
        refine ⟨n, by rw [List.mem_range'_1]; omega, ?_⟩
        rw [hn, List.getElem?_eq_getElem hnl, Bool.and_eq_true_iff]
        exact ⟨by simp, e⟩
    have hgo : gonC a 0 b = b.set n (lessK a.Rule b[n]) := by
      apply List.ext_getElem?
      intro i
      rw [gonC_get, List.getElem?_set]
      by_cases hi : n = i
      · subst hi
        rw [List.getElem?_eq_getElem hnl, if_pos rfl, if_pos hnl, Option.map_some, Nat.zero_add, hn, if_pos (by simp)]
      · rw [if_neg hi]
        cases b[i]? with
        | none => rfl
        | some l => rw [Option.map_some, Nat.zero_add, hn, if_neg (by simp; omega)]
    rw [if_neg (by simp; omega), hn, idx_nat hnl, Option.bind_some, IndexFuncR_at (q := fun x => keyB x a.Rule) (fun x _ => by unfold shadow_Shadow_Gone_1; rw [rule_Key_at]; rfl) (by omega) (by omega), Option.bind_some, hth, hgo, lessK_one h2.2, Int.toNat_natCast]
    cases hf : b[n].findIdx? fun x => keyB x a.Rule with
    | none =>
      have e2 : (b[n].any fun x => keyB x a.Rule) = false := by
        rw [List.findIdx?_eq_none_iff] at hf
        rw [List.any_eq_false]; intro x hx; rw [hf x hx]; simp
      rw [e2]
      have e3 : b.set n b[n] = b := by rw [List.set_getElem_self]
      simp only [show decide ((0 : Int) ≤ -1) = false from rfl, Bool.false_eq_true, if_false, Option.bind_some]
      rw [e3]
    | some i =>
      rw [List.findIdx?_eq_some_iff_getElem] at hf
      obtain ⟨hi, hki, _⟩ := hf
      have e2 : (b[n].any fun x => keyB x a.Rule) = true := List.any_eq_true.2 ⟨_, List.getElem_mem hi, hki⟩
      rw [e2]
      have d1 : decide ((0 : Int) ≤ (i : Int)) = true := by simp
      simp only [d1, if_true]
      rw [rule_Copy_at h1 h3 (by omega), Option.bind_some, inc i (by omega)]
      unfold slices_Delete_Rule delO
      rw [if_pos (by omega)]
      simp only [Option.bind_some, Int.toNat_natCast, Tshadow_Shadow.setbase]
      rw [List.eraseIdx_eq_take_drop_succ]
  · have hth : thereC a b.length b = false := by
      unfold thereC
      rw [List.any_eq_false]
      intro i hi
      rw [List.mem_range'_1] at hi
      have : ((i : Int) == a.Unit) = false := by rw [beq_eq_false_iff_ne]; omega
      rw [this]; simp
    have hgo : gonC a 0 b = b := by
      apply List.ext_getElem?
      intro i
      rw [gonC_get]
      cases h : b[i]? with
      | none => rfl
      | some l =>
        have hi := (List.getElem?_eq_some_iff.1 h).1
        rw [Option.map_some, Nat.zero_add, if_neg (by simp; omega)]
    rw [if_pos (by simp; omega), hth, hgo]
theorem Plays_l3 {k : Nat} (hk : 2000 < k) {L : List Tpodestalaw22_open} {u : Int} (hc : ∀ o ∈ L, ∀ c ∈ o.l, OkM k c.Mod) (hol : L.length < 2 ^ 60) : ∀ (r n f : Nat) (l : List TRule), n + r = L.length → r < f → (∀ x ∈ l, OkR k x) → l.length + sumL ((L.drop n).map toO) ≤ 990 →
    law22_ShadowPlays.l3 k L u f l (n : Int) = some (viewC ((L.drop n).map toO) u l)
  | r, n, 0, _, _, h, _, _ => by omega
  | 0, n, f + 1, l, hn, _, _, _ => by
    rw [law22_ShadowPlays.l3, if_neg (by simp only [decide_eq_true_eq]; omega), List.drop_eq_nil_of_le (by omega)]; rfl
  | r + 1, n, f + 1, l, hn, hf, hl, hlen => by
    have h : n < L.length := by omega
    have hcn := hc _ (List.getElem_mem h)
    rw [List.drop_eq_getElem_cons h, List.map_cons, sumL] at hlen
    have hlen' : l.length + (L[n].l.length + sumL ((L.drop (n + 1)).map toO)) ≤ 990 := hlen
    have hfl := forC_len L[n].l u
    have h2 := layC_len (forC L[n].l u) l
    rw [law22_ShadowPlays.l3, if_pos (by simp only [decide_eq_true_eq]; omega), idx_nat h, Option.bind_some, refFor_at hk (by omega), Option.bind_some, refLaid_at hk (forC_ok (u := u) hcn) hl (by omega), Option.bind_some, inc n (by omega),
      Plays_l3 hk hc hol r (n + 1) f _ (by omega) (by omega) (layC_ok _ _ (forC_ok hcn) hl) (by omega), List.drop_eq_getElem_cons h, List.map_cons, viewC_cons]
    rfl
theorem Plays_l2 {k : Nat} (hk : 2000 < k) {u0 : Int} {N : Nat} (hN : IntKind.i64.wrap (Int.tmod u0 4) = (N : Int)) (hN3 : N ≤ 3) {b : List (List TRule)} {L : List Tpodestalaw22_open} {n0 : Nat} (hi : InvP k N b L n0) (hn0 : n0 ≤ 90) : ∀ (r n f : Nat), n + r = N + 2 → r < f →
    law22_ShadowPlays.l2 k u0 b (shP b L) L f ((n : Int) - 1) = some (.brk ())
  | r, n, 0, _, h => by omega
  | 0, n, f + 1, hn, _ => by
    rw [law22_ShadowPlays.l2, hN, if_neg (by simp only [decide_eq_true_eq]; omega)]
  | r + 1, n, f + 1, hn, hf => by
    have hsz : ∀ l ∈ b, (∀ r ∈ l, OkR k r) ∧ l.length + sumL (L.map toO) ≤ 990 := fun l hl => ⟨hi.ok l hl, by have := hi.size l hl; omega⟩
    have hfew := hi.few
    have hT := Table_at hk (s := shP b L) (u := (n : Int) - 1) hi.mods' (by simp [shP]; omega) hsz
    have hw : ((if (decide (0 ≤ (n : Int) - 1) && decide ((n : Int) - 1 < (N : Int))) = true then ((idx b ((n : Int) - 1)).bind fun x129 => ((law22_ShadowPlays.l3 k L ((n : Int) - 1) k x129 0).bind fun (x148 : (List TRule)) => some x148)) else some []) : Option (List TRule)) = some (tableC (shP b L) ((n : Int) - 1)) := by
      unfold tableC
      by_cases h0 : 0 ≤ (n : Int) - 1
      · obtain ⟨m, hm⟩ := Int.eq_ofNat_of_zero_le h0
        rw [hm]
        by_cases hmN : m < N
        · have hml : m < b.length := by rw [hi.len]; exact hmN
          have hbm := hsz _ (List.getElem_mem hml)
          have h3 := Plays_l3 hk (u := (m : Int)) hi.mods (by omega) L.length 0 k b[m] (by omega) (by omega) hbm.1 (by rw [List.drop_zero]; exact hbm.2)
          rw [show ((0 : Nat) : Int) = 0 from rfl, List.drop_zero] at h3
          rw [if_pos (by simp; omega), idx_nat hml, Option.bind_some, h3, Option.bind_some, if_pos (by omega), Int.toNat_natCast]
          show _ = some (match b[m]? with | some l => viewC (L.map toO) (m : Int) l | none => [])
          rw [List.getElem?_eq_getElem hml]
        · rw [if_neg (by simp; omega), if_pos (by omega), Int.toNat_natCast]
          show _ = some (match b[m]? with | some l => viewC (L.map toO) (m : Int) l | none => [])
          rw [List.getElem?_eq_none (by rw [hi.len]; omega)]
      · rw [if_neg (by simp; omega), if_neg h0]
    have hS : ref04_Same k (tableC (shP b L) ((n : Int) - 1)) (tableC (shP b L) ((n : Int) - 1)) = some true := by
      have h1 : (∀ r ∈ tableC (shP b L) ((n : Int) - 1), OkR k r) ∧ (tableC (shP b L) ((n : Int) - 1)).length ≤ 990 := by
        unfold tableC
        split
        · cases hg : (shP b L).base[((n : Int) - 1).toNat]? with
          | none => simp
          | some l =>
            have hm : l ∈ b := List.mem_of_getElem? hg
            have := hsz l hm
            have hv := viewC_len (u := (n : Int) - 1) (L.map toO) l
            exact ⟨viewC_ok _ _ hi.mods' this.1, by show (viewC (L.map toO) _ l).length ≤ 990; omega⟩
        · simp
      exact Same_refl h1.1 (by omega) (by omega)
    rw [law22_ShadowPlays.l2, hN, if_pos (by simp only [decide_eq_true_eq]; omega), hw, Option.bind_some, hT, Option.bind_some, hS, Option.bind_some, if_neg (by simp)]
    rw [show IntKind.i64.wrap ((n : Int) - 1 + 1) = ((n + 1 : Nat) : Int) - 1 from by rw [wrapI (by omega) (by omega)]; omega]
    exact Plays_l2 hk hN hN3 hi hn0 r (n + 1) f (by omega) (by omega)
theorem Plays_l2_at {k : Nat} (hk : 2000 < k) {u0 : Int} {N : Nat} (hN : IntKind.i64.wrap (Int.tmod u0 4) = (N : Int)) (hN3 : N ≤ 3) {b : List (List TRule)} {L : List Tpodestalaw22_open} {n0 : Nat} (hi : InvP k N b L n0) (hn0 : n0 ≤ 90) :
    law22_ShadowPlays.l2 k u0 b (shP b L) L k (-1) = some (.brk ()) := by
  have h0 := Plays_l2 hk hN hN3 hi hn0 (N + 2) 0 k (by omega) (by omega)
  exact h0
end Go.Proofs.YtgfnkigoaajllaaGreat
