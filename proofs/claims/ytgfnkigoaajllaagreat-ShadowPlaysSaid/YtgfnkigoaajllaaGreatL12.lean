/- The joints: arguments opened by their types' shapes, and shut again where nothing that was there has turned. Nothing of the program in it. -/
import Derived.Test.YtgfnkigoaajllaaGreatL11
import Derived.ProofKit
import Derived.Deep.Slices
import Derived.OpenShut
set_option linter.unusedVariables false
set_option linter.unusedSimpArgs false
namespace Go.Pod
open Go.RowKit Go.ChangeShapes Go.WideShapes

/-- What reads as a datum of type t stands as a value of this kind, and meets G. -/
def Opn (P : Program) {α : Type} (κ : Kd α) (t : TypeId) (G : α → Prop) : Prop :=
  ∀ {H : Type} {enc : TypeId × Value → H} {w : World} {base : Nat} {spare : Nat → Bool} {held : Bool} {fuel : Nat} {cs : List Value} {x : DataW H × List MemPlace},
    DataW.trod enc P w base spare held fuel t cs = some x → ∃ a, κ.R (fun _ => False) w cs a ∧ G a
theorem Opn.mono {P : Program} {α : Type} {κ : Kd α} {t : TypeId} {G G' : α → Prop} (h : Opn P κ t G) (hg : ∀ a, G a → G' a) : Opn P κ t G' := fun hx => by
  obtain ⟨a, h1, h2⟩ := h hx
  exact ⟨a, h1, hg a h2⟩
theorem Opn.int {P : Program} {t : TypeId} {k : IntKind} (ht : P.underlying t = some (.int k)) : Opn P (kInt k) t fun n => (Lit.int k n).wf = true := by
  intro H enc w base spare held fuel cs x h
  cases fuel with
  | zero => simp [DataW.trod] at h
  | succ m =>
    unfold DataW.trod at h
    rw [ht] at h
    split at h <;> simp_all
    obtain ⟨⟨h1, h2⟩, _⟩ := h
    rename_i k' k'' n _ _
    subst h1
    exact ⟨n, rfl, h2⟩
theorem Opn.bool {P : Program} {t : TypeId} (ht : P.underlying t = some .bool) : Opn P kBool t fun _ => True := by
  intro H enc w base spare held fuel cs x h
  cases fuel with
  | zero => simp [DataW.trod] at h
  | succ m =>
    unfold DataW.trod at h
    rw [ht] at h
    have : ∃ b, cs = [Value.bool b] := by split at h <;> simp_all
    obtain ⟨b, rfl⟩ := this
    exact ⟨b, rfl, trivial⟩
theorem list_of {α : Type} {Q : Nat → α → Prop} : ∀ n, (∀ i, i < n → ∃ y, Q i y) → ∃ xs : List α, xs.length = n ∧ ∀ i x, xs[i]? = some x → Q i x
  | 0, _ => ⟨[], rfl, fun i x h => by simp at h⟩
  | n + 1, h => by
    obtain ⟨xs, hl, hq⟩ := list_of n fun i hi => h i (by omega)
    obtain ⟨y, hy⟩ := h n (by omega)
    refine ⟨xs ++ [y], by simp [hl], fun i x hx => ?_⟩
    rcases Nat.lt_or_ge i n with hi | hi
    · exact hq i x (by rwa [List.getElem?_append_left (by omega)] at hx)
    · rw [List.getElem?_append_right (by omega)] at hx
      have h0 := (List.getElem?_eq_some_iff.1 hx).1
      simp only [List.length_singleton] at h0
      have e : i = n := by omega
      subst e
      rw [hl, Nat.sub_self] at hx
      have : y = x := by simpa using hx
      exact this ▸ hy
theorem Opn.str {P : Program} {t : TypeId} (ht : P.underlying t = some .string) : Opn P kStr t fun s => s.size ≤ maxLen := by
  intro H enc w base spare held fuel cs x h
  cases fuel with
  | zero => simp [DataW.trod] at h
  | succ m =>
    unfold DataW.trod at h
    rw [ht] at h
    split at h <;> simp_all
    exact ⟨_, rfl, h.1⟩
theorem Opn.slice {P : Program} {α : Type} {κ : Kd α} {t e : TypeId} {G : α → Prop} (ht : P.underlying t = some (.slice e)) (he : Opn P κ e G) (hs : P.cellsOf e = κ.sz) (hpos : 0 < κ.sz) : Opn P (kSl κ) t fun xs => ∀ x ∈ xs, G x := by
  intro H enc w base spare held fuel cs x h
  rcases Deep.open_slice ht h with ⟨rfl, _⟩ | ⟨a, len, cap, m, n, D, Pl, rfl, hb, hl, hm, hmm, _, hi⟩
  · exact ⟨[], ⟨none, 0, rfl, SlR.nil _ _ _⟩, by simp⟩
  · have hlm : len ≤ m := by rw [hmm]; split <;> omega
    have hel : ∀ i, i < len → ∃ y, (a.block < w.heap.size ∧ ∃ cs', CellsAt w (a.add (i * κ.sz)) cs' ∧ κ.R (fun _ => False) w cs' y) ∧ G y := fun i hil => by
      obtain ⟨cs', hc, htr⟩ := hi i (by omega)
      rw [hs] at hc
      obtain ⟨y, hR, hG⟩ := he htr
      obtain ⟨_, hlen, hcell⟩ := World.cells?_some hc
      refine ⟨y, ⟨?_, cs', ?_, hR⟩, hG⟩
      · have h0 := hcell 0 hpos
        have : cs'[0]? = some (cs'[0]'(by omega)) := List.getElem?_eq_getElem (by omega)
        rw [this] at h0
        have := cell_lt h0
        rwa [add_block, add_block] at this
      · intro j u hj
        have hjl : j < κ.sz := by rw [← hlen]; exact (List.getElem?_eq_some_iff.1 hj).1
        rw [hcell j hjl]; exact hj
    obtain ⟨xs, hxl, hq⟩ := list_of len hel
    refine ⟨xs, ⟨some a, cap, by rw [hxl], ⟨by omega, hm, fun h => (by cases h), fun i y hy => ?_⟩⟩, fun y hy => ?_⟩
    · obtain ⟨⟨h1, cs', h2, h3⟩, _⟩ := hq i y hy
      exact ⟨a, cs', rfl, fun h => h, h1, h2, h3⟩
    · obtain ⟨i, hi⟩ := List.mem_iff_getElem?.1 hy
      exact (hq i y hi).2

/-! ### Structs and arrays: the parts, one behind the other -/
theorem take_whole {cs : List Value} {o n : Nat} (h : cs.length = o + n) : (cs.drop o).take n = cs.drop o := List.take_of_length_le (by simp; omega)
theorem parts_cons {cs a b : List Value} {o s : Nat} (h1 : (cs.drop o).take s = a) (h2 : cs.drop (o + s) = b) : cs.drop o = a ++ b := by
  rw [drop_split cs o s, h1, h2]
theorem parts_nil {cs : List Value} {o : Nat} (h : cs.length = o) : cs.drop o = [] := List.drop_of_length_le (by omega)
theorem parts_all {cs b : List Value} (h : cs.drop 0 = b) : cs = b := by simpa using h

theorem agg_of {v : Value} {l : List Value} (h : v.cells.toList = l) (hl : l.length ≠ 1) : v = .agg l.toArray := by
  subst h
  cases v <;> simp [Value.cells] at hl ⊢
theorem slice_of {v : Value} {A : Option Addr} {n c : Nat} {A' : Option Addr} {n' c' : Nat} (h : v.cells.toList = [.slice A n c]) (hv : v = .slice A' n' c') : v = .slice A n c := by
  subst hv
  simpa [Value.cells] using h
/-! ### The frame of a law's row -/
variable {H : Type} {enc : TypeId × Value → H} {P : Program}
theorem trodAll_below (hl : laidOutB P = true) {W W' : World} (hb : Below W.heap.size W W') : ∀ {ts : List TypeId} {vs : List Value} {ds : List (DataW H)} {ps : List MemPlace}, (ts.all fun t => P.readableRec t && decide (t < P.types.size)) = true →
    DataW.TrodAll enc P W 0 (fun _ => true) true ts vs ds ps → (∀ x ∈ ps, x.block < W.heap.size) → ∀ sp : Nat → Bool, (∀ p ∈ ps, sp p.block = true) → DataW.TrodAll enc P W' 0 sp true ts vs ds ps
  | [], vs, ds, ps, _, h, _, sp, _ => by
    obtain ⟨rfl, rfl, rfl⟩ := trodAll_nil h
    exact trodAll_mk0
  | t :: ts, vs, ds, ps, ht, h, hlt, sp, hsp => by
    obtain ⟨v, vs1, d, ds1, p, q, rfl, rfl, rfl, h1, h2⟩ := trodAll_cons h
    rw [List.all_cons, Bool.and_eq_true, Bool.and_eq_true, decide_eq_true_eq] at ht
    refine ⟨p, q, ?_, trodAll_below hl hb ht.2 h2 (fun x hx => hlt x (List.mem_append_right _ hx)) sp fun x hx => hsp x (List.mem_append_right _ hx), rfl⟩
    exact WideElems.Trod_stays hl ht.1.1 ht.1.2 h1 (fun x hx => hb.same (hlt x (List.mem_append_left _ hx))) fun x hx => hsp x (List.mem_append_left _ hx)
theorem keptBut_of_below {W W' : World} {may : MemPlace → Prop} (hb : Below W.heap.size W W') : W.keptBut W' may := by
  refine ⟨hb.os, hb.output, fun i hi => ?_⟩
  rw [hb.block i hi]
  cases h : W.heap[i]? with
  | none => trivial
  | some o => cases o <;> simp
/-- **A law that answers yes and turns nothing that was there.** -/
theorem post_law {f : Func} {s : ChangeSpec} {apart fresh handsOn again : Bool} {W W' : World} {args : Array Value} {ds gs : List (DataW H)} {before : List MemPlace} {tb : TypeId}
    (hl : laidOutB P = true) (hp : (f.params.toList.all fun t => P.readableRec t && decide (t < P.types.size)) = true) (hr : f.resultTypes = #[tb]) (htb : P.underlying tb = some .bool) (hv : s.vars = [])
    (hfn : s.fn H (ds ++ gs) = { results := [.lit (.bool true)], args := ds })
    (hW : DataW.Whole enc P f.params.toList s.vars apart W args.toList ds gs before) (hb : Below W.heap.size W W') : s.post enc P f apart fresh handsOn again W args (.bool true) W' := by
  have hlt : ∀ p ∈ before, p.block < W.heap.size := fun p hp => hW.lt p hp
  obtain ⟨p, q, hA, hV, rfl, hfz, hnd⟩ := id hW
  rw [hv] at hV
  obtain ⟨rfl, rfl⟩ := trodVars_none hV
  have hres : ∀ (b : Nat) (sp : Nat → Bool) (hd : Bool), DataW.TrodAll enc P W' b sp hd f.resultTypes.toList ((Value.bool true).resultList f.resultTypes.size) [.lit (.bool true)] [] := fun b sp hd => by
    rw [hr]
    exact trodAll_mk1 ⟨1, by simp [DataW.trod, Value.cells, htb]⟩
  have hargs := fun sp (h : ∀ x ∈ p, sp x.block = true) => trodAll_below hl hb hp hA (fun x hx => hlt x (by simpa using hx)) sp h
  have hvars : ∀ sp, DataW.TrodVars enc P W' sp s.vars ([] : List (DataW H)) [] := fun sp => by rw [hv]; rfl
  refine ⟨ds, [], _, [], p, [], hW, ?_, ?_, ?_, keptBut_of_below hb, fun _ => ⟨?_, ?_⟩⟩
  · rw [hfn]; exact hres _ _ _
  · rw [hfn]; exact hargs _ fun x hx => by simpa using hlt x (by simpa using hx)
  · rw [hfn]; exact hvars _
  · intro j t r hj hr'
    rw [hr] at hj hr'
    match j, hj, hr' with
    | 0, hj, hr' =>
      simp [Value.resultList] at hj hr'
      subst hj; subst hr'
      exact okWide_bool_mk htb true
  · refine ⟨[.lit (.bool true)] ++ ds, [], p, ⟨[] ++ p, [], trodAll_append (hargs _ fun _ _ => rfl) (hres _ _ _), hvars _, by simp, ?_, ?_⟩, fun x hx _ => by simpa using hx⟩
    · intro b off hx
      have hx' : MemPlace.cell b off ∈ p ++ ([] : List MemPlace) := by simpa using hx
      have h1 := hfz b off hx'
      have h2 := hlt _ hx'
      have e : W'.frozen? ⟨b, off, none⟩ = W.frozen? ⟨b, off, none⟩ := by
        unfold World.frozen?
        simp only [hb.block b h2]
      rw [e]; exact h1
    · intro ha
      simpa using hnd ha
end Go.Pod
