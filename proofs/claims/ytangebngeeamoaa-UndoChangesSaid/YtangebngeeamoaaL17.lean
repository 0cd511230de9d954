/- Plain words for walks: the library's sort of a row whose elements' cells hang on the elements alone. Nothing of the program in it. -/
import Derived.Test.YtangebngeeamoaaL16
set_option linter.unusedVariables false
set_option linter.unusedSimpArgs false
namespace Go.Pod
open Go.RowKit Go.Sort Go.Lib Go.Proofs Go.Shelf
theorem flatK_list {α : Type} [Inhabited α] (enc : α → List Value) (k : Nat) (hk : ∀ x, (enc x).length = k) (xs : List α) : (flatK enc k xs.toArray).toList = (xs.map enc).flatten := by
  have hl : ∀ c ∈ xs.map enc, c.length = k := by
    intro c hc
    obtain ⟨x, _, rfl⟩ := List.mem_map.1 hc
    exact hk x
  have hlen : (xs.map enc).flatten.length = xs.length * k := by rw [flatten_length hl, List.length_map]
  apply List.ext_getElem
  · rw [Array.length_toList, size_flatK, hlen, List.size_toArray]
  · intro t h1 h2
    rw [hlen] at h2
    have k0 : 0 < k := by rcases Nat.eq_zero_or_pos k with h | h; · subst h; simp at h2
                          · exact h
    have hq : t / k < xs.length := Nat.div_lt_of_lt_mul (by rwa [Nat.mul_comm] at h2)
    have hr : t % k < k := Nat.mod_lt _ k0
    have e1 : (flatK enc k xs.toArray)[t]! = (enc (xs[t / k]'hq))[t % k]'(by rw [hk]; exact hr) := by
      rw [get_flatK _ _ _ _ (by rw [List.size_toArray]; exact h2), getElem!_pos xs.toArray (t / k) (by rw [List.size_toArray]; exact hq), List.getElem_toArray,
        getElem!_pos _ (t % k) (by rw [hk]; exact hr)]
    have hs : t < (flatK enc k xs.toArray).size := by rw [size_flatK, List.size_toArray]; exact h2
    rw [getElem!_pos _ t hs] at e1
    rw [Array.getElem_toList, e1]
    have h3 : (xs.map enc)[t / k]? = some (enc (xs[t / k]'hq)) := by rw [List.getElem?_map, List.getElem?_eq_getElem hq]; rfl
    have h4 : (enc (xs[t / k]'hq))[t % k]? = some ((enc (xs[t / k]'hq))[t % k]'(by rw [hk]; exact hr)) := List.getElem?_eq_getElem _
    have h5 := flatten_get hl h3 h4
    rw [Nat.mul_comm, Nat.div_add_mod] at h5
    exact (List.getElem?_eq_some_iff.1 h5).2.symm
theorem putCells_take (F cur : Array Value) (h : F.size ≤ cur.size) : (putCells id 0 F cur).toList.take F.size = F.toList := by
  apply List.ext_getElem?
  intro t
  rw [List.getElem?_take]
  split
  · rename_i ht
    have h1 : t < (putCells id 0 F cur).size := by unfold putCells; rw [Array.size_mapIdx]; omega
    rw [Array.getElem?_toList, Array.getElem?_toList, Array.getElem?_eq_getElem h1, Array.getElem?_eq_getElem ht]
    congr 1
    have e : ∀ h, (putCells id 0 F cur)[t]'h = F[t] := by
      unfold putCells
      intro h
      rw [Array.getElem_mapIdx, if_pos (by omega), Nat.sub_zero, getElem!_pos F t ht]
      rfl
    exact e _
  · rw [Array.getElem?_toList, Array.getElem?_eq_none (by omega)]
theorem enters_pCall {P : Program} {f : FuncId} (hp : pCall P f = true) : ∀ args w, (callFunc f args).run P w = .ok (.enter f args) w := by
  unfold pCall at hp
  split at hp
  · rename_i fn hf
    rw [Bool.and_eq_true_iff] at hp
    cases hb : fn.body with
    | none => rw [hb] at hp; simp at hp
    | some c => exact enters_of hf (by simpa using hp.1) hb
  · cases hp
section
variable {P : Program} {ρ : Ren} {α : Type} [Inhabited α]
/-- **slices.SortFunc of a row of the call's own.** -/
theorem sort_ok (L : SlLaysF0.n6 P ρ) {k : Nat} (aE : ∀ w, (isAgg (ρ.t 24)).run P w = .ok true w) (zE : ∀ w, (Go.sizeOf (ρ.t 24)).run P w = .ok k w) {enc : α → List Value} (hk : ∀ x, (enc x).length = k) (h1 : ∀ x, ∀ v ∈ enc x, v.oneCell' = true)
    (k0 : 0 < k) {E : TypeId} {F : FuncId} {caps : List Value} {p : α → α → Option Int} {M : Nat → Prop} {w0 : World} {bs : List Box} {rs : List Row} {fs : List Fact} {W : World} {A : Option Addr} {c : Nat} {xs o : List α}
    (hS : St M w0 bs (⟨Kd.flat k enc hk h1, E, A, c, xs⟩ :: rs) (fFn2 P F caps (Kd.flat k enc hk h1) true (Kd.flat k enc hk h1) true p (fun r => .int .i64 r) :: fs) W)
    (hs : sortO p xs = some o) :
    Calls P (ρ.f 6) #[.slice A xs.length c, .func (.func F) #[] caps.toArray] W fun e W' => ∃ v, e = .returned v ∧ (v = .tuple #[] ∧ St M w0 bs (⟨Kd.flat k enc hk h1, E, A, c, o⟩ :: rs) fs W') := by
  obtain ⟨hlen, cf, hc, rfl⟩ := sortO_of hs
  have hF := hS.fc (i := 0) rfl
  have eg := enters_pCall hF.1
  have hS1 : St M w0 bs (⟨Kd.flat k enc hk h1, E, A, c, xs⟩ :: rs) fs W := hS.less (List.Sublist.refl _) (List.Sublist.refl _) fun f hf => List.mem_cons_of_mem _ hf
  have hrow := hS1.rw_ (i := 0) rfl
  obtain ⟨css, he, ho⟩ := hrow
  dsimp only at he ho
  rcases Nat.eq_zero_or_pos xs.length with hx | hx
  · have hx' : xs = [] := List.eq_nil_of_length_eq_zero hx
    subst hx'
    refine (AnyF.slices_SortFunc_none L A c _ W).mono ?_
    rintro e w' ⟨rfl, rfl⟩
    refine ⟨_, rfl, rfl, ?_⟩
    rw [List.mergeSort_nil]
    exact hS1
  · rcases ho.2 with ⟨_, _, hn⟩ | ⟨g, cur, fr, rfl, hb, hh, hxc, hcm, hcc, hfr, ht⟩
    · omega
    have hcs : css = xs.map enc := by
      apply List.ext_getElem?
      intro i
      rcases Nat.lt_or_ge i xs.length with hi | hi
      · have hi' : i < css.length := by rw [he.1]; exact hi
        have : css[i] = enc xs[i] := he.2 i _ _ (List.getElem?_eq_getElem hi') (List.getElem?_eq_getElem hi)
        rw [List.getElem?_eq_getElem hi', this, List.getElem?_map, List.getElem?_eq_getElem hi]; rfl
      · rw [List.getElem?_eq_none (by rw [he.1]; exact hi), List.getElem?_eq_none (by rw [List.length_map]; exact hi)]
    have hgl : g < W.heap.size := (Array.getElem?_eq_some_iff.1 hh).1
    have hxk : xs.length * k ≤ cur.size := Nat.le_trans (Nat.mul_le_mul_right _ hxc) hcc
    have hflat := flatK_list enc k hk xs
    have hH : HoldsK enc k W g 0 xs.toArray := by
      intro j hj
      rw [size_flatK, List.size_toArray] at hj
      have hj2 : j < cur.size := Nat.lt_of_lt_of_le hj hxk
      refine ⟨?_, ?_⟩
      · rw [cell_of_row W g (0 + j) cur E fr hh, Nat.zero_add]
        have e1 : (flatK enc k xs.toArray)[j]? = cur[j]? := by
          rw [← Array.getElem?_toList, hflat, ← hcs, ← ht, List.getElem?_take, if_pos (by exact hj), Array.getElem?_toList]
        rw [← e1]
        have hs : j < (flatK enc k xs.toArray).size := by rw [size_flatK, List.size_toArray]; exact hj
        rw [Array.getElem?_eq_getElem hs, getElem!_pos _ j hs]; rfl
      · unfold World.frozen?
        dsimp only
        rw [hh]
        dsimp only
        rcases hfr with h | ⟨_, h⟩
        · subst h; simp
        · rw [Bool.and_eq_false_iff]
          exact .inl (by simp; omega)
    have hm : Mut M bs (⟨Kd.flat k enc hk h1, E, some ⟨g, 0, none⟩, c, xs⟩ :: rs) g := .inr (.inr ⟨_, List.mem_cons_self, rfl⟩)
    have hne : ∀ (m : Nat) (os : Array Obj) (dk : Array α) (i : Nat), i ≠ g → i < W.heap.size → (sortWorldK enc k W g 0 m dk os).heap[i]? = W.heap[i]? := by
      intro m os dk i hi hlt
      unfold sortWorldK putRowK putRow mapBlock
      rw [heap_grow_old _ _ (by simpa [Sort.ahead] using hlt)]
      simp only [Array.getElem?_modify, Ne.symm hi, if_false]
      rfl
    have hsize : ∀ (m : Nat) (os : Array Obj) (dk : Array α), W.heap.size ≤ (sortWorldK enc k W g 0 m dk os).heap.size := fun m os dk => size_sortWorldK_c enc k W g 0 m dk os
    have hcmp : CmpLays P F caps.toArray enc k cf g 0 xs.toArray.size W := by
      intro m os dk hdk x y
      have hsz := hsize m os dk
      have hstp : Stp (Mut M bs (⟨Kd.flat k enc hk h1, E, some ⟨g, 0, none⟩, c, xs⟩ :: rs)) W (Mut M bs (⟨Kd.flat k enc hk h1, E, some ⟨g, 0, none⟩, c, xs⟩ :: rs)) (sortWorldK enc k W g 0 m dk os) :=
        ⟨hsz, fun i hi hmi => hne m os dk i (fun e => hmi (e ▸ hm)) hi, fun _ _ h => h⟩
      have := hF.2 _ _ hstp (fun i hi => Nat.lt_of_lt_of_le (hS1.mut_lt i hi) hsz) (enc x) x (enc y) y (cf x y) rfl rfl (hc.val x y)
      have e1 : ([aggV true (enc x), aggV true (enc y)] ++ caps).toArray = #[Value.agg (enc x).toArray, .agg (enc y).toArray] ++ caps.toArray := by simp [aggV]
      rw [← e1]
      refine this.mono ?_
      rintro e w' ⟨v, rfl, rfl, hb⟩
      exact ⟨rfl, grow_of hb⟩
    have hsz : xs.toArray.size < 4611686018427387904 := by
      rw [List.size_toArray]
      exact hlen
    have hcon := AnyQ.slices_SortFunc_total L k aE zE enc hk h1 cf hc.swo F caps.toArray g 0 c xs.toArray W eg hcmp hH hgl hsz hc.tot
    rw [List.size_toArray] at hcon
    refine hcon.mono ?_
    rintro e w' ⟨rfl, n, os, rfl⟩
    refine ⟨_, rfl, rfl, ?_⟩
    generalize hys : (xs.mergeSort fun x y => !(ltOf cf) y x) = ys
    have hyl : ys.length = xs.length := by rw [← hys]; exact List.length_mergeSort _
    have hnew : (sortWorldK enc k W g 0 n ys.toArray os).heap[g]? = some (.cells (putCells id 0 (flatK enc k ys.toArray) cur) E fr) := by
      unfold sortWorldK putRowK putRow mapBlock
      rw [heap_grow_old _ _ (by simpa [Sort.ahead] using hgl)]
      simp only [Array.getElem?_modify, if_true]
      show (W.heap[g]?).map _ = _
      rw [hh]; rfl
    have hset := hS1.set_row (i := 0) (r := ⟨Kd.flat k enc hk h1, E, some ⟨g, 0, none⟩, c, xs⟩) rfl ⟨Kd.flat k enc hk h1, E, some ⟨g, 0, none⟩, c, ys⟩ (W' := sortWorldK enc k W g 0 n ys.toArray os)
      ⟨rfl, rfl, rfl, hsize _ _ _, fun i hi hne' => hne _ _ _ i (fun e => hne' (by rw [e]; rfl)) hi⟩ (by show W.drawn ≤ W.drawn + n; omega) (ys.map enc)
      ⟨by simp, fun i cs x h2 h3 => by
        rw [List.getElem?_map, h3] at h2
        exact (Option.some.inj h2).symm⟩
      (by
        refine ⟨?_, .inr ⟨g, _, fr, rfl, hb, hnew, ?_, hcm, ?_, ?_, ?_⟩⟩
        · rw [flatten_length (n := k) (fun cs hcs' => by obtain ⟨x, _, rfl⟩ := List.mem_map.1 hcs'; exact hk x), List.length_map]; rfl
        · show ys.length ≤ c; omega
        · have : (putCells id 0 (flatK enc k ys.toArray) cur).size = cur.size := by unfold putCells; rw [Array.size_mapIdx]
          rw [this]; exact hcc
        · have : (putCells id 0 (flatK enc k ys.toArray) cur).size = cur.size := by unfold putCells; rw [Array.size_mapIdx]
          rw [this]; exact hfr
        · have h5 := putCells_take (flatK enc k ys.toArray) cur (by rw [size_flatK, List.size_toArray, hyl]; exact hxk)
          rw [size_flatK, List.size_toArray, flatK_list enc k hk] at h5
          exact h5)
      (fun i hi => .inl hi)
    exact hset
end
end Go.Pod
