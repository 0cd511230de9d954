/- Plain words for walks: slices: read, appended to, cut, made. Nothing of the program in it. -/
import Derived.Test.YtgfnkigoaajllaaGreatL4
set_option linter.unusedVariables false
set_option linter.unusedSimpArgs false
namespace Go.Pod
open Go.RowKit

theorem run_storeCells_fr {P : Program} (g o : Nat) (t : TypeId) (fr : Nat × Nat) : ∀ (vs : List Value) (i : Nat) (cur : Array Value) (w : World), w.heap[g]? = some (.cells cur t fr) → (fr = (0, 0) ∨ cur.size ≤ fr.1) → o + i + vs.length ≤ cur.size → (∀ v ∈ vs, v.oneCell' = true) →
    (storeCells ⟨g, o, none⟩ vs i).run P w = .ok () (w.setRow g (cur.toList.take (o + i) ++ vs ++ cur.toList.drop (o + i + vs.length)).toArray)
  | [], i, cur, w, hg, _, _, _ => by
    simp only [storeCells, List.append_nil, List.length_nil, Nat.add_zero, List.take_append_drop, Array.toArray_toList]
    rw [setRow_self w g cur t fr hg]
    rfl
  | v :: rest, i, cur, w, hg, hf, hl, h1 => by
    have hi : o + i < cur.size := by simp at hl; omega
    have hadd : (⟨g, o, none⟩ : Addr).add i = ⟨g, o + i, none⟩ := add_plain g o i
    have hcell : w.cell? ⟨g, o + i, none⟩ = some cur[o + i] := by simp [World.cell?, hg, hi]
    have hfro : w.frozen? ⟨g, o + i, none⟩ = false := by
      obtain ⟨f1, f2⟩ := fr
      simp only [World.frozen?, hg]
      rcases hf with h | h
      · cases h; simp
      · simp only [Bool.and_eq_false_iff, decide_eq_false_iff_not]; left; simp only at h; omega
    have hst : (store ((⟨g, o, none⟩ : Addr).add i) v).run P w = .ok () (w.setRow g (cur.setIfInBounds (o + i) v)) := by
      rw [hadd, run_store P w _ v _ (h1 v (by simp)), hcell]
      simp [hfro, setCell_eq_setRow w g (o + i) cur t fr v hg]
    have ih := run_storeCells_fr (P := P) g o t fr rest (i + 1) (cur.setIfInBounds (o + i) v) (w.setRow g (cur.setIfInBounds (o + i) v)) (setRow_heap w g cur _ t _ hg) (by simpa using hf) (by simp at hl ⊢; omega) (fun x hx => h1 x (by simp [hx]))
    simp only [storeCells, Sem.run_bind, hst, Result.andThen_ok, ih, setRow_setRow]
    congr 3
    have e := list_seg_step cur.toList (o + i) v rest (by simp at hl ⊢; omega)
    simpa [Array.toList_setIfInBounds, Nat.add_assoc] using e

theorem flatten_inv {css : List (List Value)} {n : Nat} (h : ∀ cs ∈ css, cs.length = n) {j : Nat} {u : Value} (hj : css.flatten[j]? = some u) : ∃ (i r : Nat) (cs : List Value), css[i]? = some cs ∧ cs[r]? = some u ∧ j = i * n + r := by
  induction css generalizing j with
  | nil => simp at hj
  | cons c rest ih =>
    have hc : c.length = n := h c (by simp)
    simp only [List.flatten_cons] at hj
    rcases Nat.lt_or_ge j c.length with hlt | hge
    · rw [List.getElem?_append_left hlt] at hj
      exact ⟨0, j, c, rfl, hj, by simp⟩
    · rw [List.getElem?_append_right hge] at hj
      obtain ⟨i, r, cs, h1, h2, h3⟩ := ih (fun x hx => h x (by simp [hx])) hj
      exact ⟨i + 1, r, cs, by simpa using h1, h2, by rw [Nat.add_mul]; omega⟩

/-- All elements of a slice, as one run of cells. -/
def Src {α : Type} (κ : Kd α) (M : Nat → Prop) (W : World) (A : Option Addr) (xs : List α) : Prop :=
  ∃ css, Els κ M W css xs ∧ (∀ a, A = some a → CellsAt W a css.flatten) ∧ (A = none → xs = [])

theorem SlR.src {α : Type} {κ : Kd α} {M : Nat → Prop} {W : World} {A : Option Addr} {c : Nat} {xs : List α} (h : SlR κ M W A c xs) : Src κ M W A xs := by
  have H : ∀ i : Nat, ∃ cs : List Value, ∀ x, xs[i]? = some x → ∃ a, A = some a ∧ CellsAt W (a.add (i * κ.sz)) cs ∧ κ.R M W cs x := by
    intro i
    cases hx : xs[i]? with
    | none => exact ⟨[], fun x h => by cases h⟩
    | some x =>
      obtain ⟨a, cs, hA, _, _, hc, hr⟩ := h.2.2.2 i x hx
      exact ⟨cs, fun y hy => by cases hy; exact ⟨a, hA, hc, hr⟩⟩
  let f : Nat → List Value := fun i => Classical.choose (H i)
  have hf : ∀ i x, xs[i]? = some x → ∃ a, A = some a ∧ CellsAt W (a.add (i * κ.sz)) (f i) ∧ κ.R M W (f i) x := fun i => Classical.choose_spec (H i)
  have he : Els κ M W ((List.range xs.length).map f) xs := by
    refine ⟨by simp, fun i cs x h1 h2 => ?_⟩
    have hi : i < xs.length := (List.getElem?_eq_some_iff.1 h2).1
    simp [hi] at h1
    obtain ⟨_, _, _, hr⟩ := hf i x h2
    rw [← h1]; exact hr
  refine ⟨_, he, fun a ha j u hu => ?_, fun h0 => (h.2.2.1 h0).1⟩
  obtain ⟨i, r, cs, h1, h2, rfl⟩ := flatten_inv he.lens hu
  have hi : i < xs.length := by
    have := (List.getElem?_eq_some_iff.1 h1).1
    simpa using this
  simp [hi] at h1
  obtain ⟨a', ha', hc, _⟩ := hf i xs[i] (List.getElem?_eq_getElem hi)
  rw [ha] at ha'
  injection ha' with ha'
  subst ha'
  have := hc r u (by rw [h1]; exact h2)
  rwa [add_add] at this

theorem Row.ok.src {r : Row} {base : Nat} {M : Nat → Prop} {W : World} (h : r.ok base M W) : Src r.κ M W r.A r.xs := by
  obtain ⟨css, he, ho⟩ := h
  refine ⟨css, he, fun a ha => ho.cells ha, fun h0 => ?_⟩
  rcases ho.2 with ⟨_, _, hn⟩ | ⟨g, cur, fr, hA, _⟩
  · exact List.eq_nil_of_length_eq_zero hn
  · rw [h0] at hA; cases hA

/-! ### append -/
theorem run_append_R {P : Program} {W : World} {base : Nat} {T ty E : TypeId} {sz by_ : Nat} {z : Value} {A A2 : Option Addr} {c c2 n m : Nat} {cs news : List Value}
    (hT : pSlc P T = some (E, sz)) (hby : pBy P E = some by_) (hz : pZero P E = some z) (hzs : z.cells.size = sz) (hsz : 0 < sz) (hb0 : 0 < by_)
    (ho : OwnR W base E sz A c n cs) (hl : news.length = m * sz) (hsrc : ∀ a, A2 = some a → CellsAt W a news) (hnil : A2 = none → m = 0) (h1 : ∀ u ∈ news, u.oneCell' = true)
    (hfit : (n + m) * by_ ≤ 140737488355328) (hbase : base ≤ W.heap.size) :
    ∃ A' c' W', (Builtin.append_ #[T, T] ty #[.slice A n c, .slice A2 m c2]).run P W = .ok (.slice A' (n + m) c') W' ∧ OwnR W' base E sz A' c' (n + m) (cs ++ news) ∧ W.grownBy W' (A.map (·.block)) ∧
      ∀ k, A'.map (·.block) = some k → A.map (·.block) = some k ∨ W.heap.size ≤ k := by
  obtain ⟨hu, hsE⟩ := pSlc_und hT
  obtain ⟨i, hi, his⟩ := pSz_info hsE
  have hib : i.bytes = by_ := by unfold pBy at hby; rw [hi] at hby; simpa using hby
  have hiz : i.zero = some z := by unfold pZero at hz; rw [hi] at hz; simpa using hz
  have hnm : n + m ≤ 140737488355328 := Nat.le_trans (Nat.le_mul_of_pos_right _ hb0) hfit
  have hlen : (cs ++ news).length = (n + m) * sz := by rw [List.length_append, ho.1, hl, Nat.add_mul]
  have h63 : n + m ≤ maxLen := by unfold maxLen; omega
  subst his
  have grown : ∀ (old : Nat), old < n + m → ∀ (row : Option Nat),
      OwnR (W.drew.alloc (.cells (cs.toArray ++ news.toArray ++ Builtin.zeroCells z.cells (grownCap W (n + m) old E - (n + m))) E)) base E i.size (some ⟨W.heap.size, 0, none⟩) (grownCap W (n + m) old E) (n + m) (cs ++ news) ∧
      W.grownBy (W.drew.alloc (.cells (cs.toArray ++ news.toArray ++ Builtin.zeroCells z.cells (grownCap W (n + m) old E - (n + m))) E)) row := by
    intro old hold row
    have hge := grownCap_ge W (n + m) old E
    have hcm : grownCap W (n + m) old E ≤ maxLen := grownCap_le_maxLen W (n + m) old E h63
    refine ⟨⟨hlen, .inr ⟨W.heap.size, _, _, rfl, hbase, heap_alloc_new W.drew _, hge, hcm, ?_, .inl rfl, ?_⟩⟩, ⟨rfl, rfl, rfl, by simp, fun k hk _ => Below.heap_alloc W.drew _ k hk⟩⟩
    · simp only [Array.size_append, List.size_toArray, size_zeroCells, hzs, ho.1, hl, ← Nat.add_mul]
      exact Nat.mul_le_mul_right _ (by omega)
    · simp only [Array.toList_append, List.append_assoc]
      rw [← List.append_assoc, ← hlen]
      exact List.take_left
  have new_blk : ∀ k, Option.map (·.block) (some (⟨W.heap.size, 0, none⟩ : Addr)) = some k → A.map (·.block) = some k ∨ W.heap.size ≤ k := by
    intro k hk; simp at hk; omega
  cases A2 with
  | none =>
    have hm := hnil rfl; subst hm
    have hn : news = [] := List.eq_nil_of_length_eq_zero (by simpa using hl)
    subst hn
    have hle : n ≤ c := ho.caps.1
    refine ⟨A, c, W, ?_, by simpa using ho, ⟨rfl, rfl, rfl, Nat.le_refl _, fun _ _ _ => rfl⟩, fun k hk => .inl hk⟩
    rcases ho.2 with ⟨rfl, rfl, rfl⟩ | ⟨g, cur, fr, rfl, _⟩
    · simp [Builtin.append_, run_underlying hu, sizeOf, typeInfo, hi, Builtin.lenOf, Builtin.firstCells]
    · simp [Builtin.append_, run_underlying hu, sizeOf, typeInfo, hi, Builtin.lenOf, Builtin.firstCells, hle, storeCells]
  | some a =>
    have hc := hsrc a rfl
    rcases ho.2 with ⟨rfl, rfl, rfl⟩ | ⟨g, cur, fr, rfl, hbg, hg, hnc, hcm, hcs, hfr, htake⟩
    · have hx : cs = [] := List.eq_nil_of_length_eq_zero (by simpa using ho.1)
      subst hx
      by_cases hm : m = 0
      · subst hm
        have hn : news = [] := List.eq_nil_of_length_eq_zero (by simpa using hl)
        subst hn
        refine ⟨none, 0, W, ?_, OwnR.nil W base E i.size, ⟨rfl, rfl, rfl, Nat.le_refl _, fun _ _ _ => rfl⟩, by simp⟩
        simp [Builtin.append_, run_underlying hu, sizeOf, typeInfo, hi, Builtin.lenOf, Builtin.firstCells, loadCells, loadCellsFrom]
      · have hr := run_append_nil (P := P) W T ty E i z hu hi hiz a m c2 news hl hc (by omega) (by omega) (by rw [hib]; simp only [Nat.zero_add] at hfit; omega)
        have hgr := grown 0 (by omega) (Option.map (·.block) (none : Option Addr))
        simp only [Nat.zero_add, List.nil_append, Array.empty_append] at hgr ⊢
        exact ⟨_, _, _, hr, hgr.1, hgr.2, new_blk⟩
    · by_cases hroom : n + m ≤ c
      · have hfitc : n * i.size + news.length ≤ cur.size := by rw [hl, ← Nat.add_mul]; exact Nat.le_trans (Nat.mul_le_mul_right _ hroom) hcs
        have hf := run_firstCells_some (P := P) W i.size m a m c2 news hl hc
        have hst := run_storeCells_fr (P := P) g (n * i.size) E fr news 0 cur W hg (hfr.imp id And.right) (by simpa using hfitc) h1
        simp only [Nat.add_zero] at hst
        refine ⟨some ⟨g, 0, none⟩, c, W.setRow g (cur.toList.take (n * i.size) ++ news ++ cur.toList.drop (n * i.size + news.length)).toArray, ?_, ⟨hlen, .inr ⟨g, _, fr, rfl, hbg, setRow_heap W g cur _ E _ hg, hroom, hcm, ?_, ?_, ?_⟩⟩,
          ⟨rfl, rfl, rfl, by simp, fun k _ hk => setRow_other W g k _ (fun e => hk (by simp [e]))⟩, fun k hk => .inl hk⟩
        · simp [Builtin.append_, run_underlying hu, sizeOf, typeInfo, hi, Builtin.lenOf, hroom, hf, Addr.add_lit, hst]
        · simp only [List.size_toArray, List.length_append, List.length_take, List.length_drop, Array.length_toList]
          omega
        · refine hfr.imp id fun h => ⟨h.1, ?_⟩
          have h := h.2
          simp only [List.size_toArray, List.length_append, List.length_take, List.length_drop, Array.length_toList]
          omega
        · rw [htake, ← hlen]
          exact List.take_left
      · have hr := run_append_grow (P := P) W T ty E i z hu hi hiz ⟨g, 0, none⟩ n c cs ho.1 (ho.cells rfl) a m c2 news hl hc (by omega) (by omega) (by rw [hib]; exact growslice_fits (by omega) hfit)
        have hgr := grown c (by omega) (Option.map (·.block) (some (⟨g, 0, none⟩ : Addr)))
        exact ⟨_, _, _, hr, hgr.1, hgr.2, new_blk⟩

/-- How long a slice may grow. -/
def app {α : Type} (by_ : Nat) (xs ys : List α) : Option (List α) := if (xs.length + ys.length) * by_ ≤ 140737488355328 then some (xs ++ ys) else none

section
variable {P : Program} {ops : Array Oper} {Q : Exit → Act → World → Prop} {a : Act} {W : World} {rest : List Oper} {n : Nat} {L : List (Nat × Value)}
  {d : Nat} {op : Op} {ty : TypeId} {pos : String} {af : Array Edge} {g : Option (Nat × Bool)} {v : Value}
  {M0 : Nat → Prop} {w0 : World} {bs : List Box} {rs : List Row} {fs : List Fact} {α : Type} {κ : Kd α}

theorem sq_append {x y : Operand} {T E : TypeId} {by_ i : Nat} {z : Value} {A A2 : Option Addr} {c c2 : Nat} {xs ys zs : List α} (hF : FH n L a) (hS : St M0 w0 bs rs fs W)
    (hi : rs[i]? = some ⟨κ, E, A, c, xs⟩) (hx : lkO L x = some (.slice A xs.length c)) (hy : lkO L y = some (.slice A2 ys.length c2)) (hsrc : Src κ (Mut M0 bs rs) W A2 ys)
    (hT : pSlc P T = some (E, κ.sz)) (hby : pBy P E = some by_) (hz : pZero P E = some z) (hzs : z.cells.size = κ.sz) (hsz : 0 < κ.sz) (hb0 : 0 < by_) (happ : app by_ xs ys = some zs) (hd : d < n)
    (K : ∀ A' c' a W, FH n ((d, .slice A' zs.length c') :: L) a → St M0 w0 bs (rs.set i ⟨κ, E, A', c', zs⟩) fs W → wpList P ops Q rest a W) :
    wpList P ops Q (⟨some d, .call { callee := .builtin .append, args := #[x, y], argTypes := #[T, T] }, ty, pos, af, none⟩ :: rest) a W := by
  unfold app at happ
  split at happ
  case isFalse => cases happ
  rename_i hfit
  cases happ
  obtain ⟨css, he, ho⟩ := hS.row _ (List.mem_of_getElem? hi)
  obtain ⟨css2, he2, hc2, hn2⟩ := hsrc
  obtain ⟨A', c', W', hr, ho', hg, hb⟩ := run_append_R (ty := ty) (c2 := c2) hT hby hz hzs hsz hb0 ho he2.flen (fun a ha => hc2 a ha) (fun h0 => by rw [hn2 h0]; rfl) he2.ones hfit hS.below.size
  have hrun : (execOp a.eval ⟨some d, .call { callee := .builtin .append, args := #[x, y], argTypes := #[T, T] }, ty, pos, af, none⟩).run P W = .ok (.value (.slice A' (xs ++ ys).length c')) W' := by
    simp only [execOp, resolve, invoke, builtin, Sem.run_bind, Sem.run_pure, Result.andThen_ok, List.map_toArray, List.map_cons, List.map_nil, hF.ev hx, hF.ev hy, hr, List.length_append]
  refine sq_run hrun hF hd fun a hF => K A' c' a W' hF ?_
  refine hS.set_row hi ⟨κ, E, A', c', xs ++ ys⟩ hg (run_drawn _ _ _ _ hr) (css ++ css2) (he.append he2) ?_ hb
  simpa [List.flatten_append, List.length_append] using ho'

theorem St.addNil (hS : St M0 w0 bs rs fs W) (κ : Kd α) (E : TypeId) : St M0 w0 bs (⟨κ, E, none, 0, []⟩ :: rs) fs W := by
  have k : St (Mut M0 bs rs) W [] [⟨κ, E, none, 0, []⟩] [] W :=
    ⟨hS.mut_lt, Bl.refl _ _, by simp, fun r hr => by
      rcases List.mem_singleton.1 hr with rfl
      exact ⟨[], Els.nil _ _ _, OwnR.nil _ _ _ _⟩, by simp, by simp, by simp, by simp⟩
  simpa using hS.join k

/-- An index into a slice that is read. -/
def idx {α : Type} (xs : List α) (i : Int) : Option α := if 0 ≤ i then xs[i.toNat]? else none
theorem idx_some {α : Type} {xs : List α} {i : Int} {x : α} (h : idx xs i = some x) : 0 ≤ i ∧ i < xs.length ∧ xs[i.toNat]? = some x := by
  unfold idx at h
  split at h
  · rename_i h0
    have := (List.getElem?_eq_some_iff.1 h).1
    exact ⟨h0, by omega, h⟩
  · cases h
theorem SlR.at {M : Nat → Prop} {A : Option Addr} {c : Nat} {xs : List α} {i : Int} {x : α} (h : SlR κ M W A c xs) (hx : idx xs i = some x) : ∃ p cs, A = some p ∧ AtR κ M W (p.add (i.toNat * κ.sz)) cs x := by
  obtain ⟨_, _, h2⟩ := idx_some hx
  obtain ⟨a, cs, hA, hm, hlt, hc, hr⟩ := h.2.2.2 _ x h2
  exact ⟨a, cs, hA, by rw [add_block]; exact hm, by rw [add_block]; exact hlt, hc, hr⟩
theorem Row.ok.at {r : Row} {base : Nat} {M : Nat → Prop} (h : r.ok base M W) {i : Int} {x : r.α} (hx : idx r.xs i = some x) : ∃ p cs, r.A = some p ∧ CellsAt W (p.add (i.toNat * r.κ.sz)) cs ∧ r.κ.R M W cs x := by
  obtain ⟨_, hlt, h2⟩ := idx_some hx
  obtain ⟨css, he, ho⟩ := h
  have hi : i.toNat < css.length := by rw [he.1]; omega
  have hcs : css[i.toNat]? = some css[i.toNat] := List.getElem?_eq_getElem hi
  rcases ho.2 with ⟨_, _, hn⟩ | ⟨g, cur, fr, hA, _⟩
  · omega
  · refine ⟨_, css[i.toNat], hA, ?_, he.2 _ _ x hcs h2⟩
    exact (ho.cells hA).sub fun j u hu => flatten_get he.lens hcs hu
theorem v_idx (hF : FH n L a) {T e : TypeId} {x y : Operand} {A : Option Addr} {p : Addr} {k : IntKind} {i : Int} {c s : Nat} {xs : List α} {y' : α} (hx : lkO L x = some (.slice A xs.length c)) (hA : A = some p) (hy : lkO L y = some (.int k i)) (hT : pSlc P T = some (e, s))
    (hi : idx xs i = some y') : Val P a W (.indexAddr T x y) (.pointer (some (p.add (i.toNat * s)))) := by
  obtain ⟨h0, h1, _⟩ := idx_some hi
  subst hA
  exact v_indexSl hF hx hy hT h0 h1

/-- The j-th element's cells of a row of the call's own are written. -/
theorem St.setEl {E : TypeId} {i g : Nat} {c : Nat} {xs : List α} {cur : Array Value} {fr : Nat × Nat} {css : List (List Value)} {j : Int} {cs : List Value} {x1 : α} (hS : St M0 w0 bs rs fs W)
    (hi : rs[i]? = some ⟨κ, E, some ⟨g, 0, none⟩, c, xs⟩) (he : Els κ (Mut M0 bs rs) W css xs) (hbg : w0.heap.size ≤ g) (hg : W.heap[g]? = some (.cells cur E fr)) (hnc : xs.length ≤ c) (hcm : c ≤ maxLen) (hcs : c * κ.sz ≤ cur.size)
    (hfr : fr = (0, 0) ∨ (κ.sz = 1 ∧ cur.size ≤ fr.1)) (htake : cur.toList.take (xs.length * κ.sz) = css.flatten) (hjn : j.toNat < xs.length) (hr : κ.R (Mut M0 bs rs) W cs x1) :
    St M0 w0 bs (rs.set i ⟨κ, E, some ⟨g, 0, none⟩, c, xs.set j.toNat x1⟩) fs (W.setRow g (cur.toList.take (j.toNat * κ.sz) ++ cs ++ cur.toList.drop (j.toNat * κ.sz + cs.length)).toArray) := by
  have hl := κ.len hr
  have hjc : (j.toNat + 1) * κ.sz ≤ cur.size := Nat.le_trans (Nat.mul_le_mul_right _ (by omega)) hcs
  have hjl : j.toNat * κ.sz + cs.length ≤ cur.size := by rw [hl]; rw [Nat.add_mul, Nat.one_mul] at hjc; exact hjc
  refine hS.set_row hi ⟨κ, E, some ⟨g, 0, none⟩, c, xs.set j.toNat x1⟩ ⟨rfl, rfl, rfl, by simp, fun k _ hk => setRow_other W g k _ (fun e => hk (by rw [e]; rfl))⟩ (Nat.le_refl _) (css.set j.toNat cs) (he.set _ hr) ?_ (fun k hk => .inl hk)
  have hset : ∀ (css : List (List Value)) (k : Nat), (∀ c ∈ css, c.length = κ.sz) → k < css.length → (css.set k cs).flatten = css.flatten.take (k * κ.sz) ++ cs ++ css.flatten.drop (k * κ.sz + cs.length) := by
    intro css
    induction css with
    | nil => intro k _ hk; simp at hk
    | cons c0 css ih =>
      intro k hall hk
      have hc0 : c0.length = κ.sz := hall c0 (by simp)
      match k with
      | 0 => simp [List.set, hl, hc0]
      | k + 1 =>
        have ih' := ih k (fun x hx => hall x (by simp [hx])) (by simpa using hk)
        simp only [List.set_cons_succ, List.flatten_cons, ih', hl]
        rw [Nat.add_mul, Nat.one_mul, List.take_append, List.drop_append, hc0]
        have e1 : c0.take (k * κ.sz + κ.sz) = c0 := List.take_of_length_le (by omega)
        have e2 : c0.drop (k * κ.sz + κ.sz + κ.sz) = [] := List.drop_of_length_le (by omega)
        rw [e1, e2]
        simp [show k * κ.sz + κ.sz - κ.sz = k * κ.sz from by omega, show k * κ.sz + κ.sz + κ.sz - κ.sz = k * κ.sz + κ.sz from by omega]
  have hfl := he.flen
  refine ⟨?_, .inr ⟨g, _, fr, rfl, hbg, setRow_heap W g cur _ E _ hg, ?_, hcm, ?_, ?_, ?_⟩⟩
  · have := (he.set j.toNat hr).flen
    simpa using this
  · simpa using hnc
  · simp only [List.size_toArray, List.length_append, List.length_take, List.length_drop, Array.length_toList]; omega
  · refine hfr.imp id fun h => ⟨h.1, ?_⟩
    have h := h.2
    simp only [List.size_toArray, List.length_append, List.length_take, List.length_drop, Array.length_toList]
    omega
  · rw [hset css _ he.lens (by rw [he.1]; exact hjn)]
    simp only [List.length_set]
    rw [← htake]
    have hle : j.toNat * κ.sz + κ.sz ≤ xs.length * κ.sz := by rw [← Nat.succ_mul]; exact Nat.mul_le_mul_right _ hjn
    have hle2 : xs.length * κ.sz ≤ cur.size := Nat.le_trans (Nat.mul_le_mul_right _ hnc) hcs
    apply List.ext_getElem?
    intro q
    simp only [List.getElem?_take, List.getElem?_append, List.length_append, List.length_take, List.getElem?_drop, Array.length_toList, hl, List.length_drop]
    rcases Nat.lt_or_ge q (j.toNat * κ.sz) with h5 | h5
    · simp [show q < xs.length * κ.sz from by omega, show q < min (j.toNat * κ.sz) cur.size + κ.sz from by omega, show q < min (j.toNat * κ.sz) cur.size from by omega, h5, show q < min (j.toNat * κ.sz) (min (xs.length * κ.sz) cur.size) from by omega, show q < min (j.toNat * κ.sz) (min (xs.length * κ.sz) cur.size) + κ.sz from by omega]
    · rcases Nat.lt_or_ge q (j.toNat * κ.sz + κ.sz) with h6 | h6
      · have e1 : min (j.toNat * κ.sz) cur.size = j.toNat * κ.sz := by omega
        have e2 : min (j.toNat * κ.sz) (min (xs.length * κ.sz) cur.size) = j.toNat * κ.sz := by omega
        simp [e1, e2, show q < xs.length * κ.sz from by omega, h6, Nat.not_lt.2 h5]
      · have e1 : min (j.toNat * κ.sz) cur.size = j.toNat * κ.sz := by omega
        have e2 : min (j.toNat * κ.sz) (min (xs.length * κ.sz) cur.size) = j.toNat * κ.sz := by omega
        simp only [e1, e2, Nat.not_lt.2 h6, if_false]
        by_cases h7 : q < xs.length * κ.sz
        · simp only [h7, if_true]
          rw [if_pos (by omega)]
        · simp only [h7, if_false]
          rw [if_neg (by omega)]
/-- A whole element of a row of the call's own is written. -/
theorem sq_storeEl {x y : Operand} {T E : TypeId} {i : Nat} {A : Option Addr} {p : Addr} {c : Nat} {xs : List α} {j : Int} {cs : List Value} {x0 x1 : α} (hF : FH n L a) (hS : St M0 w0 bs rs fs W)
    (hi : rs[i]? = some ⟨κ, E, A, c, xs⟩) (hA : A = some p) (hx : lkO L x = some (.pointer (some (p.add (j.toNat * κ.sz))))) (hj : idx xs j = some x0)
    (hy : lkO L y = some v) (hv : v.cells = cs.toArray) (hs : pSz P T = some κ.sz) (hr : κ.R (Mut M0 bs rs) W cs x1)
    (K : ∀ W, St M0 w0 bs (rs.set i ⟨κ, E, A, c, xs.set j.toNat x1⟩) fs W → wpList P ops Q rest a W) :
    wpList P ops Q (⟨none, .store T x y, ty, pos, af, none⟩ :: rest) a W := by
  obtain ⟨h0, hlt, h2⟩ := idx_some hj
  obtain ⟨css, he, ho⟩ := hS.row _ (List.mem_of_getElem? hi)
  dsimp only at he ho
  have hl := κ.len hr
  subst hA
  rcases ho.2 with ⟨h, _⟩ | ⟨g, cur, fr, hA, hbg, hg, hnc, hcm, hcs, hfr, htake⟩
  · cases h
  simp only [Option.some.injEq] at hA
  have hA' : p = ⟨g, 0, none⟩ := hA
  subst hA'
  have hjn : j.toNat < xs.length := by omega
  have hjc : (j.toNat + 1) * κ.sz ≤ cur.size := Nat.le_trans (Nat.mul_le_mul_right _ (by omega)) hcs
  have hjl : j.toNat * κ.sz + cs.length ≤ cur.size := by rw [hl]; rw [Nat.add_mul, Nat.one_mul] at hjc; exact hjc
  have hst := run_storeCells_fr (P := P) g (j.toNat * κ.sz) E fr cs 0 cur W hg (hfr.imp id And.right) (by simpa using hjl) (κ.one hr)
  simp only [Nat.add_zero] at hst
  have hr1 : (execOp a.eval ⟨none, .store T x y, ty, pos, af, none⟩).run P W = .ok .skip (W.setRow g (cur.toList.take (j.toNat * κ.sz) ++ cs ++ cur.toList.drop (j.toNat * κ.sz + cs.length)).toArray) := by
    simp only [execOp, hF.ev hx, hF.ev hy, Instr.storeAt, Instr.sureAddr, Sem.run_bind, Sem.run_pure, Result.andThen_ok, storeVar, run_sizeOf' hs, hv, List.size_toArray, hl, ne_eq, not_true_eq_false, if_false]
    rw [add_plain, Nat.zero_add, hst]
    rw [hl]
    rfl
  exact sq_skip hr1 (K _ (by
    exact hS.setEl (j := j) hi he hbg hg hnc hcm hcs hfr htake hjn hr))
theorem take_part (L : List Value) (k s o m : Nat) (vs : List Value) (hm : vs.length = m) (ho : o + m ≤ s) (hk : k + s ≤ L.length) :
    L.take (k + o) ++ vs ++ L.drop (k + o + m) = L.take k ++ (((L.drop k).take s).take o ++ vs ++ ((L.drop k).take s).drop (o + m)) ++ L.drop (k + s) := by
  have e1 : L.take (k + o) = L.take k ++ ((L.drop k).take s).take o := by
    rw [List.take_take, Nat.min_eq_left (by omega), List.take_add]
  have e2 : L.drop (k + o + m) = ((L.drop k).take s).drop (o + m) ++ L.drop (k + s) := by
    have h : L.drop k = (L.drop k).take s ++ L.drop (k + s) := by
      rw [← List.drop_drop, List.take_append_drop]
    rw [Nat.add_assoc, ← List.drop_drop]
    conv => lhs; rw [h]
    rw [List.drop_append_of_le_length (by rw [List.length_take, List.length_drop]; omega)]
  rw [e1, e2]
  simp only [List.append_assoc]
/-- A part of an element of a row of the call's own is written. -/
theorem sq_storeElP {x y : Operand} {T E : TypeId} {i o : Nat} {A : Option Addr} {p q : Addr} {c : Nat} {xs : List α} {j : Int} {vs : List Value} {x0 x1 : α} (hF : FH n L a) (hS : St M0 w0 bs rs fs W)
    (hi : rs[i]? = some ⟨κ, E, A, c, xs⟩) (hA : A = some p) (hx : lkO L x = some (.pointer (some q))) (hq : q = (p.add (j.toNat * κ.sz)).add o) (hj : idx xs j = some x0)
    (hy : lkO L y = some v) (hv : v.cells = vs.toArray) (hs : pSz P T = some vs.length) (h1 : ∀ u ∈ vs, u.oneCell' = true) (ho' : o + vs.length ≤ κ.sz)
    (hR : ∀ cs0, κ.R (Mut M0 bs rs) W cs0 x0 → κ.R (Mut M0 bs rs) W (cs0.take o ++ vs ++ cs0.drop (o + vs.length)) x1)
    (K : ∀ W, St M0 w0 bs (rs.set i ⟨κ, E, A, c, xs.set j.toNat x1⟩) fs W → wpList P ops Q rest a W) :
    wpList P ops Q (⟨none, .store T x y, ty, pos, af, none⟩ :: rest) a W := by
  obtain ⟨h0, hlt, h2⟩ := idx_some hj
  obtain ⟨css, he, ho⟩ := hS.row _ (List.mem_of_getElem? hi)
  dsimp only at he ho
  subst hA
  rcases ho.2 with ⟨h, _⟩ | ⟨g, cur, fr, hA, hbg, hg, hnc, hcm, hcs, hfr, htake⟩
  · cases h
  simp only [Option.some.injEq] at hA
  have hA' : p = ⟨g, 0, none⟩ := hA
  subst hA'
  have hjn : j.toNat < xs.length := by omega
  have hjs : j.toNat < css.length := by rw [he.1]; exact hjn
  have hcg : css[j.toNat]? = some css[j.toNat] := List.getElem?_eq_getElem hjs
  have hr0 := he.2 _ _ _ hcg h2
  have hr := hR _ hr0
  have hl0 := κ.len hr0
  have hl := κ.len hr
  have hjc : (j.toNat + 1) * κ.sz ≤ cur.size := Nat.le_trans (Nat.mul_le_mul_right _ (by omega)) hcs
  have hjx : (j.toNat + 1) * κ.sz ≤ xs.length * κ.sz := Nat.mul_le_mul_right _ (by omega)
  rw [Nat.add_mul, Nat.one_mul] at hjc hjx
  have hcell : (cur.toList.drop (j.toNat * κ.sz)).take κ.sz = css[j.toNat] := by
    apply List.ext_getElem?
    intro t
    rw [List.getElem?_take, List.getElem?_drop]
    split
    · rename_i ht
      have e := flatten_get he.lens hcg (j := t) (u := css[j.toNat][t]'(by omega)) (List.getElem?_eq_getElem _)
      rw [← htake, List.getElem?_take, if_pos (by omega)] at e
      rw [e, List.getElem?_eq_getElem]
    · rw [List.getElem?_eq_none (by omega)]
  have hst := run_storeCells_fr (P := P) g (j.toNat * κ.sz + o) E fr vs 0 cur W hg (hfr.imp id And.right) (by simp only [Nat.add_zero]; omega) h1
  simp only [Nat.add_zero] at hst
  have hpt := take_part cur.toList (j.toNat * κ.sz) κ.sz o vs.length vs rfl ho' (by rw [Array.length_toList]; omega)
  rw [hcell] at hpt
  have hr1 : (execOp a.eval ⟨none, .store T x y, ty, pos, af, none⟩).run P W = .ok .skip (W.setRow g (cur.toList.take (j.toNat * κ.sz + o) ++ vs ++ cur.toList.drop (j.toNat * κ.sz + o + vs.length)).toArray) := by
    simp only [execOp, hF.ev hx, hF.ev hy, Instr.storeAt, Instr.sureAddr, Sem.run_bind, Sem.run_pure, Result.andThen_ok, storeVar, run_sizeOf' hs, hv, List.size_toArray, ne_eq, not_true_eq_false, if_false]
    rw [hq, add_plain, add_plain, Nat.zero_add, hst]
    rfl
  rw [hpt] at hr1
  refine sq_skip hr1 (K _ ?_)
  have := hS.setEl (j := j) hi he hbg hg hnc hcm hcs hfr htake hjn hr
  rw [hl] at this
  exact this
end
end Go.Pod
