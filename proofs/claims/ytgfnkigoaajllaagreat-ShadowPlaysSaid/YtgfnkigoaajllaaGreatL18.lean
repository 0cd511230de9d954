/- Plain words for walks: the library's sort of a row of numbers. Nothing of the program in it. -/
import Derived.Test.YtgfnkigoaajllaaGreatL16
import Derived.Shelf.SortM.Plain
import Derived.Shelf.SortM.SortNone
set_option linter.unusedVariables false
set_option linter.unusedSimpArgs false
namespace Go.Pod
open Go.RowKit Go.Sort Go.Lib Go.Proofs Go.Shelf
def sortI (xs : List Int) : Option (List Int) := if xs.length < 4611686018427387904 then some (xs.mergeSort fun x y => decide (x ≤ y)) else none
theorem sortI_len {xs o : List Int} (h : sortI xs = some o) : o.length = xs.length := by
  unfold sortI at h
  split at h
  · cases h; exact List.length_mergeSort _
  · cases h
theorem putCells_takeE {α : Type} [Inhabited α] (enc : α → Value) (F : Array α) (cur : Array Value) (h : F.size ≤ cur.size) : (putCells enc 0 F cur).toList.take F.size = F.toList.map enc := by
  apply List.ext_getElem?
  intro t
  rw [List.getElem?_take]
  split
  · rename_i ht
    have h1 : t < (putCells enc 0 F cur).size := by unfold putCells; rw [Array.size_mapIdx]; omega
    rw [Array.getElem?_toList, List.getElem?_map, Array.getElem?_toList, Array.getElem?_eq_getElem h1, Array.getElem?_eq_getElem ht]
    have e : ∀ h, (putCells enc 0 F cur)[t]'h = enc F[t] := by
      unfold putCells
      intro h
      rw [Array.getElem_mapIdx, if_pos (by omega), Nat.sub_zero, getElem!_pos F t ht]
    rw [e]; rfl
  · rw [List.getElem?_map, Array.getElem?_toList, Array.getElem?_eq_none (by omega)]; rfl
theorem flatten_ones (xs : List Int) (f : Int → Value) : (xs.map fun x => [f x]).flatten = xs.map f := by
  induction xs with
  | nil => rfl
  | cons x xs ih => rw [List.map_cons, List.flatten_cons, ih, List.map_cons]; rfl
section
variable {P : Program} {ρ : Ren}
/-- **slices.Sort of a row of numbers of the call's own.** -/
theorem sortI_ok (L : SlLaysM.n5 P ρ) {E : TypeId} {M : Nat → Prop} {w0 : World} {bs : List Box} {rs : List Row} {fs : List Fact} {W : World} {A : Option Addr} {c : Nat} {xs o : List Int}
    (hS : St M w0 bs (⟨kInt .i64, E, A, c, xs⟩ :: rs) fs W) (hs : sortI xs = some o) :
    Calls P (ρ.f 5) #[.slice A xs.length c] W fun e W' => ∃ v, e = .returned v ∧ (v = .tuple #[] ∧ St M w0 bs (⟨kInt .i64, E, A, c, o⟩ :: rs) fs W') := by
  have hlen : xs.length < 4611686018427387904 := by
    unfold sortI at hs
    split at hs
    · assumption
    · cases hs
  have ho' : o = xs.mergeSort fun x y => decide (x ≤ y) := by
    unfold sortI at hs
    rw [if_pos hlen] at hs
    exact (Option.some.inj hs).symm
  have hrow := hS.rw_ (i := 0) rfl
  obtain ⟨css, he, ho⟩ := hrow
  dsimp only at he ho
  rcases Nat.eq_zero_or_pos xs.length with hx | hx
  · have hx' : xs = [] := List.eq_nil_of_length_eq_zero hx
    subst hx'
    refine (AnyM.slices_Sort_int_none L A c W).mono ?_
    rintro e w' ⟨rfl, rfl⟩
    refine ⟨_, rfl, rfl, ?_⟩
    rw [ho', List.mergeSort_nil]
    exact hS
  · rcases ho.2 with ⟨_, _, hn⟩ | ⟨g, cur, fr, rfl, hb, hh, hxc, hcm, hcc, hfr, ht⟩
    · omega
    have hsz1 : (kInt .i64).sz = 1 := rfl
    rw [hsz1, Nat.mul_one] at hcc
    rw [hsz1, Nat.mul_one] at ht
    have hcs : css = xs.map fun x => [Value.int .i64 x] := by
      apply List.ext_getElem?
      intro i
      rcases Nat.lt_or_ge i xs.length with hi | hi
      · have hi' : i < css.length := by rw [he.1]; exact hi
        have : css[i] = [Value.int .i64 xs[i]] := he.2 i _ _ (List.getElem?_eq_getElem hi') (List.getElem?_eq_getElem hi)
        rw [List.getElem?_eq_getElem hi', this, List.getElem?_map, List.getElem?_eq_getElem hi]; rfl
      · rw [List.getElem?_eq_none (by rw [he.1]; exact hi), List.getElem?_eq_none (by rw [List.length_map]; exact hi)]
    have hgl : g < W.heap.size := (Array.getElem?_eq_some_iff.1 hh).1
    have hflat : css.flatten = xs.map (Value.int .i64) := by rw [hcs, flatten_ones]
    have hH : Holds (Value.int .i64) W g 0 xs.toArray := by
      intro j hj
      rw [List.size_toArray] at hj
      refine ⟨?_, ?_⟩
      · rw [cell_of_row W g (0 + j) cur E fr hh, Nat.zero_add]
        have e1 : cur[j]? = (xs.map (Value.int .i64))[j]? := by
          rw [← hflat, ← ht, List.getElem?_take, if_pos hj, Array.getElem?_toList]
        rw [e1, List.getElem?_map, List.getElem?_eq_getElem hj, getElem!_pos xs.toArray j (by rw [List.size_toArray]; exact hj)]
        rfl
      · unfold World.frozen?
        dsimp only
        rw [hh]
        dsimp only
        rcases hfr with h | ⟨_, h⟩
        · subst h; simp
        · rw [Bool.and_eq_false_iff]
          exact .inl (by simp; omega)
    refine (AnyM.slices_Sort_int L g 0 c xs W hH hgl hlen).mono ?_
    rintro e w' ⟨rfl, n, os, rfl⟩
    refine ⟨_, rfl, rfl, ?_⟩
    rw [← ho']
    have hyl : o.length = xs.length := sortI_len hs
    have hother : ∀ i, i ≠ g → i < W.heap.size → (grow (putRow (Value.int .i64) (Sort.ahead W n) g 0 o.toArray) os).heap[i]? = W.heap[i]? := by
      intro i hi hlt
      unfold putRow mapBlock
      rw [heap_grow_old _ _ (by simpa [Sort.ahead] using hlt)]
      simp only [Array.getElem?_modify, Ne.symm hi, if_false]
      rfl
    have hnew : (grow (putRow (Value.int .i64) (Sort.ahead W n) g 0 o.toArray) os).heap[g]? = some (.cells (putCells (Value.int .i64) 0 o.toArray cur) E fr) := by
      unfold putRow mapBlock
      rw [heap_grow_old _ _ (by simpa [Sort.ahead] using hgl)]
      simp only [Array.getElem?_modify, if_true]
      show (W.heap[g]?).map _ = _
      rw [hh]; rfl
    have hgs : W.heap.size ≤ (grow (putRow (Value.int .i64) (Sort.ahead W n) g 0 o.toArray) os).heap.size := by
      rw [size_grow]
      unfold putRow mapBlock
      simp [Sort.ahead]
    have hpsz : (putCells (Value.int .i64) 0 o.toArray cur).size = cur.size := by unfold putCells; rw [Array.size_mapIdx]
    have hset := hS.set_row (i := 0) (r := ⟨kInt .i64, E, some ⟨g, 0, none⟩, c, xs⟩) rfl ⟨kInt .i64, E, some ⟨g, 0, none⟩, c, o⟩ (W' := grow (putRow (Value.int .i64) (Sort.ahead W n) g 0 o.toArray) os)
      ⟨rfl, rfl, rfl, hgs, fun i hi hne' => hother i (fun e => hne' (by rw [e]; rfl)) hi⟩ (by show W.drawn ≤ W.drawn + n; omega) (o.map fun x => [Value.int .i64 x])
      ⟨by simp, fun i cs x h2 h3 => by
        rw [List.getElem?_map, h3] at h2
        exact (Option.some.inj h2).symm⟩
      (by
        refine ⟨?_, .inr ⟨g, _, fr, rfl, hb, hnew, ?_, hcm, ?_, ?_, ?_⟩⟩
        · rw [flatten_ones, List.length_map]
          show o.length = o.length * 1
          omega
        · show o.length ≤ c; omega
        · rw [hpsz]
          show c * 1 ≤ cur.size
          omega
        · rw [hpsz]; exact hfr
        · have h5 := putCells_takeE (Value.int .i64) o.toArray cur (by rw [List.size_toArray, hyl]; omega)
          rw [List.size_toArray] at h5
          rw [flatten_ones]
          show (putCells (Value.int .i64) 0 o.toArray cur).toList.take (o.length * 1) = _
          rw [Nat.mul_one]
          exact h5)
      (fun i hi => .inl hi)
    exact hset
end
end Go.Pod
