/- What the calls on a shadow come to. -/
import Derived.Test.YtgfnkigoaajllaaGreatO1
set_option linter.unusedVariables false
set_option linter.unusedSimpArgs false
set_option maxRecDepth 100000
namespace Go.Proofs.YtgfnkigoaajllaaGreat
open Go.RowKit Go.Pod

theorem IndexFuncO_l0 (k : Nat) {xs : List Tshadow_open} {p : Tshadow_open → Option Bool} {q : Tshadow_open → Bool} (hq : ∀ x ∈ xs, p x = some (q x)) (hl : xs.length < 2 ^ 62) : ∀ (r n m : Nat), n + r = xs.length → r < m →
    slices_IndexFunc_open.l0 k xs p m (n : Int) = some (match (xs.drop n).findIdx? q with | some i => .ret ((n + i : Nat) : Int) | none => .brk ())
  | r, n, 0, _, h => by omega
  | 0, n, m + 1, hn, _ => by
    rw [slices_IndexFunc_open.l0, if_neg (by simp only [decide_eq_true_eq]; omega), List.drop_eq_nil_of_le (by omega)]; rfl
  | r + 1, n, m + 1, hn, hm => by
    have h : n < xs.length := by omega
    rw [slices_IndexFunc_open.l0, if_pos (by simp only [decide_eq_true_eq]; omega), idx_nat h, Option.bind_some, hq _ (List.getElem_mem h), Option.bind_some, List.drop_eq_getElem_cons h, List.findIdx?_cons]
    cases hb : q xs[n]
    · simp only [Bool.false_eq_true, if_false]
      rw [inc n (by omega), IndexFuncO_l0 k hq hl r (n + 1) m (by omega) (by omega)]
      cases (xs.drop (n + 1)).findIdx? q with
      | none => rfl
      | some i => simp only [Option.map_some]; rw [show n + 1 + i = n + (i + 1) by omega]
    · simp
theorem find_at {k : Nat} {s : Tshadow_Shadow} (id : Int) (hl : s.open_.length < 2 ^ 62) (hk : s.open_.length < k) :
    shadow_Shadow_find k s id = some (match s.open_.findIdx? (fun o => o.id == id) with | some i => (i : Int) | none => -1) := by
  unfold shadow_Shadow_find slices_IndexFunc_open
  have h0 := IndexFuncO_l0 k (xs := s.open_) (p := fun a0 => shadow_Shadow_find_1 a0 id) (q := fun o => o.id == id) (fun x _ => rfl) hl s.open_.length 0 k (by omega) hk
  rw [show ((0 : Nat) : Int) = 0 from rfl, List.drop_zero] at h0
  rw [h0]
  cases h : s.open_.findIdx? (fun o => o.id == id) with
  | none => rfl
  | some i => simp
theorem IndexFuncC_l0 (k : Nat) {xs : List TChange} {p : TChange → Option Bool} {q : TChange → Bool} (hq : ∀ x ∈ xs, p x = some (q x)) (hl : xs.length < 2 ^ 62) : ∀ (r n m : Nat), n + r = xs.length → r < m →
    slices_IndexFunc_Change.l0 k xs p m (n : Int) = some (match (xs.drop n).findIdx? q with | some i => .ret ((n + i : Nat) : Int) | none => .brk ())
  | r, n, 0, _, h => by omega
  | 0, n, m + 1, hn, _ => by
    rw [slices_IndexFunc_Change.l0, if_neg (by simp only [decide_eq_true_eq]; omega), List.drop_eq_nil_of_le (by omega)]; rfl
  | r + 1, n, m + 1, hn, hm => by
    have h : n < xs.length := by omega
    rw [slices_IndexFunc_Change.l0, if_pos (by simp only [decide_eq_true_eq]; omega), idx_nat h, Option.bind_some, hq _ (List.getElem_mem h), Option.bind_some, List.drop_eq_getElem_cons h, List.findIdx?_cons]
    cases hb : q xs[n]
    · simp only [Bool.false_eq_true, if_false]
      rw [inc n (by omega), IndexFuncC_l0 k hq hl r (n + 1) m (by omega) (by omega)]
      cases (xs.drop (n + 1)).findIdx? q with
      | none => rfl
      | some i => simp only [Option.map_some]; rw [show n + 1 + i = n + (i + 1) by omega]
    · simp
theorem ContainsFuncC_at {k : Nat} {xs : List TChange} {p : TChange → Option Bool} {q : TChange → Bool} (hq : ∀ x ∈ xs, p x = some (q x)) (hl : xs.length < 2 ^ 62) (hk : xs.length < k) :
    slices_ContainsFunc_Change k xs p = some (xs.any q) := by
  unfold slices_ContainsFunc_Change slices_IndexFunc_Change
  have h0 := IndexFuncC_l0 k hq hl xs.length 0 k (by omega) hk
  rw [show ((0 : Nat) : Int) = 0 from rfl, List.drop_zero] at h0
  rw [h0]
  cases h : xs.findIdx? q with
  | none =>
    rw [List.findIdx?_eq_none_iff] at h
    have : xs.any q = false := by rw [List.any_eq_false]; intro x hx; rw [h x hx]; simp
    rw [this]; rfl
  | some i =>
    rw [List.findIdx?_eq_some_iff_getElem] at h
    obtain ⟨hi, hp, _⟩ := h
    have : xs.any q = true := List.any_eq_true.2 ⟨_, List.getElem_mem hi, hp⟩
    rw [this]
    simp
/-- Is a change of no unit? -/
def outB (n : Nat) (c : TChange) : Bool := decide (c.Unit < 0) || decide ((n : Int) ≤ c.Unit)
theorem Begin_at {k : Nat} (hk : 2000 < k) {s : Tshadow_Shadow} {id : Int} {cs : List TChange} (ho : s.open_.length ≤ 1000) (hc : cs.length ≤ 1000) :
    shadow_Shadow_Begin k s id cs = some (if s.open_.any (fun o => o.id == id) then (s, 5) else if cs.any (outB s.base.length) then (s, 1) else ({ s with open_ := s.open_ ++ [{ id := id, list := cs }] }, 0)) := by
  unfold shadow_Shadow_Begin
  rw [if_neg (by decide), find_at id (by omega) (by omega), Option.bind_some]
  cases h : s.open_.findIdx? (fun o => o.id == id) with
  | some i =>
    have : s.open_.any (fun o => o.id == id) = true := by
      rw [List.findIdx?_eq_some_iff_getElem] at h
      obtain ⟨hi, hp, _⟩ := h
      exact List.any_eq_true.2 ⟨_, List.getElem_mem hi, hp⟩
    rw [this, if_pos (by simp), if_pos rfl]
  | none =>
    have : s.open_.any (fun o => o.id == id) = false := by
      rw [List.findIdx?_eq_none_iff] at h
      rw [List.any_eq_false]; intro x hx; rw [h x hx]; simp
    rw [this, if_neg (by simp), if_neg (by simp), ContainsFuncC_at (p := fun a0 => shadow_Shadow_Begin_1 a0 s) (q := outB s.base.length) (fun x _ => rfl) (by omega) (by omega), Option.bind_some]
    cases cs.any (outB s.base.length)
    · simp only [Bool.false_eq_true, if_false]
      unfold slices_Clone_Change
      rw [app_some (by simp only [List.length_nil]; omega), Option.bind_some, Option.bind_some, app_some (by rw [List.length_singleton]; omega), Option.bind_some]
      rfl
    · rfl
theorem end_at {k : Nat} (hk : 2000 < k) {s : Tshadow_Shadow} {id : Int} (ho : s.open_.length ≤ 1000) :
    shadow_Shadow_end k s id = some (match s.open_.findIdx? (fun o => o.id == id) with | some i => ({ s with open_ := s.open_.eraseIdx i }, (s.open_[i]?).getD Tshadow_open.zero, 0) | none => (s, Tshadow_open.zero, 4)) := by
  unfold shadow_Shadow_end
  rw [if_neg (by decide), find_at id (by omega) (by omega), Option.bind_some]
  cases h : s.open_.findIdx? (fun o => o.id == id) with
  | none => rfl
  | some i =>
    rw [List.findIdx?_eq_some_iff_getElem] at h
    obtain ⟨hi, _, _⟩ := h
    dsimp only
    rw [if_neg (by simp), idx_nat hi, Option.bind_some, inc i (by omega)]
    unfold slices_Delete_open delO
    rw [if_pos (by omega)]
    simp only [Int.toNat_natCast, Option.bind_some]
    rw [List.getElem?_eq_getElem hi, Option.getD_some, List.eraseIdx_eq_take_drop_succ]
    rfl
theorem Abort_at {k : Nat} (hk : 2000 < k) {s : Tshadow_Shadow} {id : Int} (ho : s.open_.length ≤ 1000) :
    shadow_Shadow_Abort k s id = some (match s.open_.findIdx? (fun o => o.id == id) with | some i => ({ s with open_ := s.open_.eraseIdx i }, 0) | none => (s, 4)) := by
  unfold shadow_Shadow_Abort
  rw [end_at hk ho, Option.bind_some]
  cases s.open_.findIdx? (fun o => o.id == id) <;> rfl

/-- All units' tables with a transaction's changes. -/
def comC (cs : List TChange) : Nat → List (List TRule) → List (List TRule)
  | _, [] => []
  | n, l :: bs => layC l (forC cs (n : Int)) :: comC cs (n + 1) bs
theorem comC_len (cs : List TChange) : ∀ (n : Nat) (bs : List (List TRule)), (comC cs n bs).length = bs.length
  | _, [] => rfl
  | n, l :: bs => by rw [comC, List.length_cons, List.length_cons, comC_len cs (n + 1) bs]
theorem comC_app (cs : List TChange) : ∀ (n : Nat) (xs bs : List (List TRule)), comC cs n (xs ++ bs) = comC cs n xs ++ comC cs (n + xs.length) bs
  | n, [], bs => rfl
  | n, a :: xs, bs => by rw [List.cons_append, comC, comC, comC_app cs (n + 1) xs bs, List.cons_append, List.length_cons, show n + 1 + xs.length = n + (xs.length + 1) by omega]
theorem comC_get (cs : List TChange) : ∀ (n : Nat) (bs : List (List TRule)) (i : Nat), (comC cs n bs)[i]? = (bs[i]?).map fun l => layC l (forC cs ((n + i : Nat) : Int))
  | n, [], i => rfl
  | n, l :: bs, 0 => rfl
  | n, l :: bs, i + 1 => by rw [comC, List.getElem?_cons_succ, List.getElem?_cons_succ, comC_get cs (n + 1) bs i, show n + 1 + i = n + (i + 1) by omega]
/-- One step of a walk over all tables. -/
theorem com_step {cs : List TChange} {bs : List (List TRule)} {n : Nat} (h : n < bs.length) :
    (comC cs 0 (bs.take n) ++ bs.drop n)[n]? = some bs[n] ∧ (comC cs 0 (bs.take n) ++ bs.drop n).set n (layC bs[n] (forC cs (n : Int))) = comC cs 0 (bs.take (n + 1)) ++ bs.drop (n + 1) := by
  have hl : (comC cs 0 (bs.take n)).length = n := by rw [comC_len, List.length_take]; omega
  constructor
  · rw [List.getElem?_append_right (by omega), hl, Nat.sub_self, List.getElem?_drop, Nat.add_zero, List.getElem?_eq_getElem h]
  · rw [List.set_append_right _ _ (by omega), hl, Nat.sub_self, List.drop_eq_getElem_cons h, List.set_cons_zero, List.take_succ_eq_append_getElem h, comC_app, List.append_assoc]
    rw [List.length_take, Nat.zero_add, Nat.min_eq_left (by omega)]
    rfl
theorem idx_of {α : Type} {xs : List α} {p : Nat} {x : α} (h : xs[p]? = some x) : idx xs (p : Int) = some x := by
  obtain ⟨hp, rfl⟩ := List.getElem?_eq_some_iff.1 h
  exact idx_nat hp
theorem Commit_l0 {k : Nat} (hk : 2000 < k) {x1 : Tshadow_Shadow × Tshadow_open × Int} {bs : List (List TRule)} {os : List Tshadow_open} (hx : x1.1.base.length = bs.length) (hc : ∀ c ∈ x1.2.1.list, OkM k c.Mod) (hcl : x1.2.1.list.length ≤ 900)
    (hb : ∀ l ∈ bs, (∀ r ∈ l, OkR k r) ∧ l.length + x1.2.1.list.length ≤ 990) (hbl : bs.length < 2 ^ 60) : ∀ (r n f : Nat), n + r = bs.length → r < f →
    shadow_Shadow_Commit.l0 k x1 f { base := comC x1.2.1.list 0 (bs.take n) ++ bs.drop n, open_ := os } (n : Int) = some { base := comC x1.2.1.list 0 bs, open_ := os }
  | r, n, 0, _, h => by omega
  | 0, n, f + 1, hn, _ => by
    rw [shadow_Shadow_Commit.l0, if_neg (by simp only [decide_eq_true_eq]; omega), List.drop_eq_nil_of_le (by omega), List.take_of_length_le (by omega), List.append_nil]
  | r + 1, n, f + 1, hn, hf => by
    have h : n < bs.length := by omega
    obtain ⟨e1, e2⟩ := com_step (cs := x1.2.1.list) h
    have hbn := hb _ (List.getElem_mem h)
    have hfl := forC_len x1.2.1.list (n : Int)
    obtain ⟨log, el⟩ := sLaid_at hk (forC_ok (u := (n : Int)) hc) hbn.1 (by omega)
    rw [shadow_Shadow_Commit.l0, if_pos (by simp only [decide_eq_true_eq]; omega), idx_of e1, Option.bind_some, sFor_at hk hc (by omega), Option.bind_some, el, Option.bind_some, inc n (by omega)]
    simp only [Tshadow_Shadow.setbase, Int.toNat_natCast]
    rw [e2]
    exact Commit_l0 hk hx hc hcl hb hbl r (n + 1) f (by omega) (by omega)
theorem Commit_at {k : Nat} (hk : 2000 < k) {s : Tshadow_Shadow} {id : Int} (ho : s.open_.length ≤ 1000) (hc : ∀ o ∈ s.open_, ∀ c ∈ o.list, OkM k c.Mod) (hcl : ∀ o ∈ s.open_, o.list.length ≤ 900)
    (hb : ∀ l ∈ s.base, (∀ r ∈ l, OkR k r) ∧ ∀ o ∈ s.open_, l.length + o.list.length ≤ 990) (hbl : s.base.length ≤ 1000) :
    shadow_Shadow_Commit k s id = some (match s.open_.findIdx? (fun o => o.id == id) with | some i => ({ base := comC ((s.open_[i]?).getD Tshadow_open.zero).list 0 s.base, open_ := s.open_.eraseIdx i }, 0) | none => (s, 4)) := by
  unfold shadow_Shadow_Commit
  rw [end_at hk ho, Option.bind_some]
  cases h : s.open_.findIdx? (fun o => o.id == id) with
  | none => rfl
  | some i =>
    rw [List.findIdx?_eq_some_iff_getElem] at h
    obtain ⟨hi, _, _⟩ := h
    have hmem := List.getElem_mem hi
    dsimp only
    rw [List.getElem?_eq_getElem hi, Option.getD_some, if_neg (by decide)]
    have h0 := Commit_l0 hk (x1 := ({ s with open_ := s.open_.eraseIdx i }, s.open_[i], 0)) (bs := s.base) (os := s.open_.eraseIdx i) rfl (hc _ hmem) (hcl _ hmem) (fun l hl => ⟨(hb l hl).1, (hb l hl).2 _ hmem⟩) (by omega) s.base.length 0 k (by omega) (by omega)
    rw [List.take_zero, List.drop_zero] at h0
    rw [show ((0 : Nat) : Int) = 0 from rfl] at h0
    have h1 : shadow_Shadow_Commit.l0 k ({ s with open_ := s.open_.eraseIdx i }, s.open_[i], 0) k { s with open_ := s.open_.eraseIdx i } 0 = some { base := comC s.open_[i].list 0 s.base, open_ := s.open_.eraseIdx i } := h0
    rw [h1]; rfl

/-- A table with all that is open. -/
def viewC (os : List Tshadow_open) (u : Int) (l : List TRule) : List TRule := os.foldl (fun l o => layC l (forC o.list u)) l
def sumL : List Tshadow_open → Nat
  | [] => 0
  | o :: os => o.list.length + sumL os
theorem viewC_cons (o : Tshadow_open) (os : List Tshadow_open) (u : Int) (l : List TRule) : viewC (o :: os) u l = viewC os u (layC l (forC o.list u)) := rfl
theorem viewC_ok {k : Nat} {u : Int} : ∀ (os : List Tshadow_open) (l : List TRule), (∀ o ∈ os, ∀ c ∈ o.list, OkM k c.Mod) → (∀ r ∈ l, OkR k r) → ∀ r ∈ viewC os u l, OkR k r
  | [], l, _, hl => hl
  | o :: os, l, ho, hl => viewC_ok os _ (fun x hx => ho x (List.mem_cons_of_mem _ hx)) (layC_ok _ _ (forC_ok (ho o List.mem_cons_self)) hl)
theorem viewC_len {u : Int} : ∀ (os : List Tshadow_open) (l : List TRule), (viewC os u l).length ≤ l.length + sumL os
  | [], l => by rw [sumL]; exact Nat.le_refl _
  | o :: os, l => by
    have h1 := viewC_len (u := u) os (layC l (forC o.list u))
    have h2 := layC_len (forC o.list u) l
    have h3 := forC_len o.list u
    rw [viewC_cons, sumL]; omega
theorem Table_l0 {k : Nat} (hk : 2000 < k) {s : Tshadow_Shadow} {u : Int} (hc : ∀ o ∈ s.open_, ∀ c ∈ o.list, OkM k c.Mod) (hol : s.open_.length < 2 ^ 60) : ∀ (r n f : Nat) (l : List TRule), n + r = s.open_.length → r < f → (∀ x ∈ l, OkR k x) → l.length + sumL (s.open_.drop n) ≤ 990 →
    shadow_Shadow_Table.l0 k s u f l (n : Int) = some (viewC (s.open_.drop n) u l)
  | r, n, 0, _, _, h, _, _ => by omega
  | 0, n, f + 1, l, hn, _, _, _ => by
    rw [shadow_Shadow_Table.l0, if_neg (by simp only [decide_eq_true_eq]; omega), List.drop_eq_nil_of_le (by omega)]; rfl
  | r + 1, n, f + 1, l, hn, hf, hl, hlen => by
    have h : n < s.open_.length := by omega
    have hcn := hc _ (List.getElem_mem h)
    rw [List.drop_eq_getElem_cons h, sumL] at hlen
    have hfl := forC_len s.open_[n].list u
    have h2 := layC_len (forC s.open_[n].list u) l
    obtain ⟨log, el⟩ := sLaid_at hk (forC_ok (u := u) hcn) hl (by omega)
    rw [shadow_Shadow_Table.l0, if_pos (by simp only [decide_eq_true_eq]; omega), idx_nat h, Option.bind_some, sFor_at hk hcn (by omega), Option.bind_some, el, Option.bind_some, inc n (by omega)]
    dsimp only
    rw [Table_l0 hk hc hol r (n + 1) f _ (by omega) (by omega) (layC_ok _ _ (forC_ok hcn) hl) (by omega), List.drop_eq_getElem_cons h, viewC_cons]
/-- What is read of a table. -/
def tableC (s : Tshadow_Shadow) (u : Int) : List TRule := if 0 ≤ u then (match s.base[u.toNat]? with | some l => viewC s.open_ u l | none => []) else []
theorem Table_at {k : Nat} (hk : 2000 < k) {s : Tshadow_Shadow} {u : Int} (hc : ∀ o ∈ s.open_, ∀ c ∈ o.list, OkM k c.Mod) (hol : s.open_.length ≤ 1000) (hb : ∀ l ∈ s.base, (∀ r ∈ l, OkR k r) ∧ l.length + sumL s.open_ ≤ 990) :
    shadow_Shadow_Table k s u = some (tableC s u) := by
  unfold shadow_Shadow_Table tableC
  by_cases hu : 0 ≤ u
  · obtain ⟨n, rfl⟩ := Int.eq_ofNat_of_zero_le hu
    rw [if_pos hu, Int.toNat_natCast]
    by_cases hn : n < s.base.length
    · have hbn := hb _ (List.getElem_mem hn)
      rw [if_neg (by simp; omega), idx_nat hn, Option.bind_some, List.getElem?_eq_getElem hn]
      have h0 := Table_l0 hk (u := (n : Int)) hc (by omega) s.open_.length 0 k s.base[n] (by omega) (by omega) hbn.1 (by rw [List.drop_zero]; exact hbn.2)
      rw [show ((0 : Nat) : Int) = 0 from rfl, List.drop_zero] at h0
      have hvl := viewC_len (u := (n : Int)) s.open_ s.base[n]
      rw [h0, Option.bind_some, rule_Copy_at (viewC_ok _ _ hc hbn.1) (by omega) (by omega)]
      rfl
    · rw [if_pos (by simp; omega), List.getElem?_eq_none (by omega)]
  · rw [if_pos (by simp; omega), if_neg hu]
theorem New_at (n : Nat) (h : n ≤ 8) : shadow_New (n : Int) = some { base := List.replicate n [], open_ := [] } := by
  unfold shadow_New mkS
  have e : min (max (n : Int) 0) 8 = (n : Int) := by omega
  rw [e, if_pos (by omega)]
  rfl
end Go.Proofs.YtgfnkigoaajllaaGreat
