/- slices.Insert at rules: what a call comes to. -/
import Derived.Test.YtgfnkigoaajllaaGreatL19
import Derived.Test.YtgfnkigoaajllaaGreatProg
import Derived.KernelRfl
set_option linter.unusedVariables false
set_option linter.unusedSimpArgs false
namespace Go.Proofs.YtgfnkigoaajllaaGreat
open Go.RowKit Go.Pod Go.Lib Go.Proofs Go.Shelf
set_option maxHeartbeats 4000000 in
set_option maxRecDepth 100000 in
theorem ins_shift (W : World) (g n c i g2 c2 : Nat) (cur cur2 : Array Value) (hi : i < n) (hroom : n + 1 ≤ c) (hcm : c ≤ maxLen) (hcs : c * 32 ≤ cur.size) (hne : g2 ≠ g) (hk2 : 32 ≤ cur2.size)
    (hg : W.heap[g]? = some (.cells cur 51 (0, 0))) (hg2 : W.heap[g2]? = some (.cells cur2 51 (0, 0))) (h1 : ∀ v ∈ cur.toList.take (n * 32), v.oneCell' = true) (h2 : ∀ v ∈ cur2.toList.take 32, v.oneCell' = true)
    (C1 C2 : Array Value) (hC1 : C1 = (cur.toList.take ((i + 1) * 32) ++ (cur.toList.drop (i * 32)).take ((n - i) * 32) ++ cur.toList.drop ((i + 1) * 32 + ((cur.toList.drop (i * 32)).take ((n - i) * 32)).length)).toArray)
    (hC2 : C2 = (C1.toList.take (i * 32) ++ cur2.toList.take 32 ++ C1.toList.drop (i * 32 + (cur2.toList.take 32).length)).toArray) :
    Calls Tryz.prog 291 #[.slice (some ⟨g, 0, none⟩) n c, .int .i64 i, .slice (some ⟨g2, 0, none⟩) 1 c2] W fun e w' =>
      e = .returned (.slice (some ⟨g, 0, none⟩) (n + 1) c) ∧ w' = (W.drew.setRow g C1).setRow g C2 := by
  have hm63 : maxLen = 9223372036854775807 := rfl
  have hz2 : ¬ ((i : Int) = (n : Int)) := by omega
  have hsz : (Tryz.prog.info? 51).map (·.size) = some 32 := by kernel_rfl
  have z51 := Tryz.sizeOf51
  have hl1 : ((cur.toList.drop (i * 32)).take ((n - i) * 32)).length = (n - i) * 32 := by
    rw [List.length_take, List.length_drop, Array.length_toList]; omega
  have hcl : C1.size = cur.size := by
    rw [hC1]
    simp only [List.size_toArray, List.length_append, hl1, List.length_take, List.length_drop, Array.length_toList]; omega
  have hov : ∀ o lb cb, (callFunc 300 #[.slice (some ⟨g2, 0, none⟩) 1 c2, .slice (some ⟨g, o, none⟩) lb cb]).run Tryz.prog W = .ok (.value (.bool false)) W := fun o lb cb => by
    rw [run_callFunc_extern Tryz.func300 (by kernel_rfl) (by kernel_rfl) (by kernel_rfl) (e := Extern.SlicesOverlaps.overlaps #[26, 26] #[4]) (by kernel_rfl),
      Lib.run_overlaps_apart W 26 4 51 Tryz.underlying26 32 Tryz.sizeOf51 ⟨g2, 0, none⟩ ⟨g, o, none⟩ 1 c2 lb cb hne 51 51 cur2.size cur.size (by simp [World.shape?, hg2]) (by simp [World.shape?, hg]) (by omega) (by simp [World.frozen?, hg2]) (by simp [World.frozen?, hg2])]
    rfl
  have hw1 : IntKind.i64.wrap ((i : Int) + 1) = (i : Int) + 1 := by rw [IntKind.wrap_i64]; omega
  have hw2 : IntKind.i64.wrap ((n : Int) + 1) = (n : Int) + 1 := by rw [IntKind.wrap_i64]; omega
  have hcp1 : ∀ ty dc sc, (Builtin.copy_ #[26, 26] ty #[.slice (some ⟨g, (i + 1) * 32, none⟩) (n - i) dc, .slice (some ⟨g, i * 32, none⟩) (n + 1 - i) sc]).run Tryz.prog W.drew = .ok (goInt ((n - i : Nat) : Int)) (W.drew.setRow g C1) := fun ty dc sc => by
    rw [hC1]
    exact run_copy_k W.drew 26 26 ty 51 g ((i + 1) * 32) (n - i) dc ⟨g, i * 32, none⟩ (n + 1 - i) sc cur 51 (0, 0) (n - i) _ Tryz.underlying26 hsz hg (.inl rfl) (by show n - i = min (n + 1 - i) (n - i); omega) hl1
      (fun j v hj => by
        rw [add_plain]
        have hjl := (List.getElem?_eq_some_iff.1 hj).1
        rw [hl1] at hjl
        rw [List.getElem?_take, if_pos hjl, List.getElem?_drop, Array.getElem?_toList] at hj
        simp only [World.cell?]
        show (match W.heap[g]? with | some (.cells c _ _) => _ | _ => none) = _
        rw [hg]
        simpa using hj) (by rw [hl1]; omega) (fun v hv => by
        have : v ∈ cur.toList.take (n * 32) := by
          rw [List.mem_iff_getElem?] at hv ⊢
          obtain ⟨j, hj⟩ := hv
          have hjl := (List.getElem?_eq_some_iff.1 hj).1
          rw [hl1] at hjl
          rw [List.getElem?_take, if_pos hjl, List.getElem?_drop] at hj
          exact ⟨i * 32 + j, by rw [List.getElem?_take, if_pos (by omega)]; exact hj⟩
        exact h1 v this)
  have hcp2 : ∀ ty dc, (Builtin.copy_ #[26, 26] ty #[.slice (some ⟨g, i * 32, none⟩) (n + 1 - i) dc, .slice (some ⟨g2, 0, none⟩) 1 c2]).run Tryz.prog (W.drew.setRow g C1) = .ok (goInt 1) ((W.drew.setRow g C1).setRow g C2) := fun ty dc => by
    rw [hC2]
    exact run_copy_k (W.drew.setRow g C1) 26 26 ty 51 g (i * 32) (n + 1 - i) dc ⟨g2, 0, none⟩ 1 c2 C1 51 (0, 0) 1 (cur2.toList.take 32) Tryz.underlying26 hsz (setRow_heap W.drew g cur C1 51 (0, 0) hg) (.inl rfl) (by show 1 = min 1 (n + 1 - i); omega) (by rw [List.length_take, Array.length_toList]; omega)
      (fun j v hj => by
        rw [add_plain, Nat.zero_add]
        rw [List.getElem?_take] at hj
        split at hj
        · rw [Array.getElem?_toList] at hj
          simp only [World.cell?]
          rw [setRow_other W.drew g g2 C1 hne]
          show (match W.heap[g2]? with | some (.cells c _ _) => _ | _ => none) = _
          rw [hg2]
          simpa using hj
        · cases hj) (by rw [hcl, List.length_take, Array.length_toList]; omega) h2
  clear h1 h2 hC2 hC1 hl1 hcl
  have hb1 : (0 : Int) ≤ (i : Int) + 1 := by omega
  have mixed : Tryz.prog.follows Departure.mixedOrders = true := by kernel_rfl
  have hin : i ≤ n := by omega
  have hb2 : ¬ (c = i + 1) := by omega
  have hb3 : (i : Int) ≤ (n : Int) + 1 := by omega
  have hb4 : ¬ (c = i) := by omega
  go_enter Tryz.func291, Tryz.ntmps291
  go_wp2_with (simp only [hov])
  go_region_law_o (refine step_copy_runI rfl _ _ 26 26 rfl _ _ (by simp [Act.eval, Act.put]) (by simp [Act.eval, Act.put]) (hcp1 _ _ _) ?_)
  go_wp2_with (at_builtin; refine wpList_copy_runI _ rfl _ _ 26 26 rfl _ _ rfl rfl (hcp2 _ _) ?_)

  go_ret
  exact ⟨rfl, rfl⟩
set_option maxHeartbeats 4000000 in
set_option maxRecDepth 100000 in
theorem ins_grow (W : World) (g n c i g2 c2 : Nat) (cur cur2 : Array Value) (hi : i < n) (hnc : n ≤ c) (hroom : c < n + 1) (hbig : (n + 1) * 272 ≤ 140737488355328) (hcs : c * 32 ≤ cur.size) (hk2 : 32 ≤ cur2.size)
    (hg : W.heap[g]? = some (.cells cur 51 (0, 0))) (hg2 : W.heap[g2]? = some (.cells cur2 51 (0, 0))) (h1 : ∀ v ∈ cur.toList.take (n * 32), v.oneCell' = true) (h2 : ∀ v ∈ cur2.toList.take 32, v.oneCell' = true) :
    Calls Tryz.prog 291 #[.slice (some ⟨g, 0, none⟩) n c, .int .i64 i, .slice (some ⟨g2, 0, none⟩) 1 c2] W fun e w' =>
      ∃ (G : Nat) (R : Array Value), e = .returned (.slice (some ⟨W.heap.size, 0, none⟩) (n + 1) G) ∧ n + 1 ≤ G ∧ G ≤ maxLen ∧ W.grownBy w' none ∧ W.drawn ≤ w'.drawn ∧ w'.heap[W.heap.size]? = some (.cells R 51 (0, 0)) ∧ R.size = G * 32 ∧
        R.toList.take ((n + 1) * 32) = cur.toList.take (i * 32) ++ cur2.toList.take 32 ++ (cur.toList.drop (i * 32)).take ((n - i) * 32) := by
  have hm63 : maxLen = 9223372036854775807 := rfl
  have hgl : g < W.heap.size := (Array.getElem?_eq_some_iff.1 hg).1
  have hgl2 : g2 < W.heap.size := (Array.getElem?_eq_some_iff.1 hg2).1
  have hz2 : ¬ ((i : Int) = (n : Int)) := by omega
  have hz3 : (c : Int) < (n : Int) + 1 := by omega
  have hsz : (Tryz.prog.info? 51).map (·.size) = some 32 := by kernel_rfl
  have hby : (Tryz.prog.info? 51).map (·.bytes) = some 272 := by kernel_rfl
  have hzr : ((Tryz.prog.info? 51).bind (·.zero)).map (·.cells.size) = some 32 := by kernel_rfl
  obtain ⟨i0, hi0⟩ : ∃ i0, Tryz.prog.info? 51 = some i0 := by
    cases hq : Tryz.prog.info? 51 with
    | none => rw [hq] at hsz; cases hsz
    | some i0 => exact ⟨i0, rfl⟩
  have hzs : i0.size = 32 := by rw [hi0] at hsz; simpa using hsz
  have hzb : i0.bytes = 272 := by rw [hi0] at hby; simpa using hby
  obtain ⟨z, hz0, hzc⟩ : ∃ z, i0.zero = some z ∧ z.cells.size = 32 := by
    rw [hi0] at hzr
    cases hq : i0.zero with
    | none => rw [Option.bind_some, hq] at hzr; cases hzr
    | some z => rw [Option.bind_some, hq] at hzr; exact ⟨z, rfl, by simpa using hzr⟩
  have hkk : (n : Int) + 1 - (i : Int) = ((n + 1 - i : Nat) : Int) := by omega
  have hik : i + (n + 1 - i) = n + 1 := by omega
  have hold : (Builtin.firstCells i0.size i (.slice (some ⟨g, 0, none⟩) i c)).run Tryz.prog W.drew = .ok (cur.toList.take (i * 32)).toArray W.drew := by
    rw [hzs]
    exact run_firstCells_some W.drew 32 i ⟨g, 0, none⟩ i c (cur.toList.take (i * 32)) (by rw [List.length_take, Array.length_toList]; omega) (fun j v hj => by
      rw [add_plain, Nat.zero_add]
      rw [List.getElem?_take] at hj
      split at hj
      · rw [Array.getElem?_toList] at hj
        simp only [World.cell?]
        show (match W.heap[g]? with | some (.cells c _ _) => _ | _ => none) = _
        rw [hg]
        simpa using hj
      · cases hj)
  obtain ⟨G, hG⟩ : ∃ G, G = grownCap W (n + 1) c 51 := ⟨_, rfl⟩
  obtain ⟨ROW, hROW⟩ : ∃ ROW : Array Value, ROW = (cur.toList.take (i * 32)).toArray ++ Builtin.zeroCells z.cells (n + 1 - i) ++ Builtin.zeroCells z.cells (G - (n + 1)) := ⟨_, rfl⟩
  obtain ⟨W1, hW1⟩ : ∃ W1, W1 = W.drew.alloc (.cells ROW 51) := ⟨_, rfl⟩
  have hrz : ∀ ty, (Builtin.append_ #[26, 3] ty #[.slice (some ⟨g, 0, none⟩) i c, .int .i64 ((n : Int) + 1 - (i : Int))]).run Tryz.prog W = .ok (.slice (some ⟨W.heap.size, 0, none⟩) (n + 1) G) W1 := fun ty => by
    have h := Lib.run_append_grow_zeros W 26 3 ty 51 i0 z .i64 .i64 Tryz.underlying26 Tryz.underlying3 hi0 hz0 (some ⟨g, 0, none⟩) i c (cur.toList.take (i * 32)) hold (n + 1 - i) (by omega) (by omega) (by omega) (by omega) (by rw [hzb]; omega) (by rw [hzb, hik]; exact growslice_fits hroom hbig)
    rw [hik] at h
    rw [hkk, h, hW1, hROW, hG]
  have hGn : n + 1 ≤ G := by rw [hG]; exact grownCap_ge W _ _ _
  have hGm : G ≤ maxLen := by rw [hG]; exact grownCap_le_maxLen W (n + 1) c 51 (by omega)
  have hRs : ROW.size = G * 32 := by
    rw [hROW]
    simp only [Array.size_append, List.size_toArray, List.length_take, Array.length_toList, size_zeroCells, hzc]
    omega
  have hRt : ROW.toList.take (i * 32) = cur.toList.take (i * 32) := by
    rw [hROW]
    simp only [Array.toList_append, List.append_assoc]
    rw [List.take_append_of_le_length (by rw [List.length_take, Array.length_toList]; omega), List.take_take, Nat.min_self]
  have hWN : W1.heap[W.heap.size]? = some (.cells ROW 51 (0, 0)) := by rw [hW1]; exact heap_alloc_new W.drew _
  have hWo : ∀ k, k < W.heap.size → W1.heap[k]? = W.heap[k]? := fun k hk => by rw [hW1]; exact Below.heap_alloc W.drew _ k hk
  have hl2 : (cur2.toList.take 32).length = 32 := by rw [List.length_take, Array.length_toList]; omega
  have hl1 : ((cur.toList.drop (i * 32)).take ((n - i) * 32)).length = (n - i) * 32 := by
    rw [List.length_take, List.length_drop, Array.length_toList]; omega
  obtain ⟨R1, hR1⟩ : ∃ R1 : Array Value, R1 = (ROW.toList.take (i * 32) ++ cur2.toList.take 32 ++ ROW.toList.drop (i * 32 + (cur2.toList.take 32).length)).toArray := ⟨_, rfl⟩
  have hR1s : R1.size = G * 32 := by
    rw [hR1]
    simp only [List.size_toArray, List.length_append, hl2, List.length_take, List.length_drop, Array.length_toList, hRs]; omega
  have hcpA : ∀ ty dc, (Builtin.copy_ #[26, 26] ty #[.slice (some ⟨W.heap.size, i * 32, none⟩) (n + 1 - i) dc, .slice (some ⟨g2, 0, none⟩) 1 c2]).run Tryz.prog W1 = .ok (goInt 1) (W1.setRow W.heap.size R1) := fun ty dc => by
    rw [hR1]
    exact run_copy_k W1 26 26 ty 51 W.heap.size (i * 32) (n + 1 - i) dc ⟨g2, 0, none⟩ 1 c2 ROW 51 (0, 0) 1 (cur2.toList.take 32) Tryz.underlying26 hsz hWN (.inl rfl) (by show 1 = min 1 (n + 1 - i); omega) (by rw [hl2])
      (fun j v hj => by
        rw [add_plain, Nat.zero_add]
        rw [List.getElem?_take] at hj
        split at hj
        · rw [Array.getElem?_toList] at hj
          simp only [World.cell?]
          rw [hWo g2 hgl2, hg2]
          simpa using hj
        · cases hj) (by rw [hRs, hl2]; omega) h2
  obtain ⟨W2, hW2⟩ : ∃ W2, W2 = W1.setRow W.heap.size R1 := ⟨_, rfl⟩
  rw [← hW2] at hcpA
  have hWN2 : W2.heap[W.heap.size]? = some (.cells R1 51 (0, 0)) := by rw [hW2]; exact setRow_heap W1 W.heap.size ROW R1 51 (0, 0) hWN
  have hWo2 : ∀ k, k < W.heap.size → W2.heap[k]? = W.heap[k]? := fun k hk => by rw [hW2, setRow_other W1 W.heap.size k R1 (by omega)]; exact hWo k hk
  obtain ⟨R2, hR2⟩ : ∃ R2 : Array Value, R2 = (R1.toList.take ((i + 1) * 32) ++ (cur.toList.drop (i * 32)).take ((n - i) * 32) ++ R1.toList.drop ((i + 1) * 32 + ((cur.toList.drop (i * 32)).take ((n - i) * 32)).length)).toArray := ⟨_, rfl⟩
  have hcpB : ∀ ty dc sc, (Builtin.copy_ #[26, 26] ty #[.slice (some ⟨W.heap.size, (i + 1) * 32, none⟩) (n - i) dc, .slice (some ⟨g, i * 32, none⟩) (n - i) sc]).run Tryz.prog W2.drew = .ok (goInt ((n - i : Nat) : Int)) (W2.drew.setRow W.heap.size R2) := fun ty dc sc => by
    rw [hR2]
    exact run_copy_k W2.drew 26 26 ty 51 W.heap.size ((i + 1) * 32) (n - i) dc ⟨g, i * 32, none⟩ (n - i) sc R1 51 (0, 0) (n - i) _ Tryz.underlying26 hsz hWN2 (.inl rfl) (by show n - i = min (n - i) (n - i); omega) hl1
      (fun j v hj => by
        rw [add_plain]
        have hjl := (List.getElem?_eq_some_iff.1 hj).1
        rw [hl1] at hjl
        rw [List.getElem?_take, if_pos hjl, List.getElem?_drop, Array.getElem?_toList] at hj
        simp only [World.cell?]
        show (match W2.heap[g]? with | some (.cells c _ _) => _ | _ => none) = _
        rw [hWo2 g hgl, hg]
        simpa using hj) (by rw [hl1, hR1s]; omega) (fun v hv => by
        have : v ∈ cur.toList.take (n * 32) := by
          rw [List.mem_iff_getElem?] at hv ⊢
          obtain ⟨j, hj⟩ := hv
          have hjl := (List.getElem?_eq_some_iff.1 hj).1
          rw [hl1] at hjl
          rw [List.getElem?_take, if_pos hjl, List.getElem?_drop] at hj
          exact ⟨i * 32 + j, by rw [List.getElem?_take, if_pos (by omega)]; exact hj⟩
        exact h1 v this)
  obtain ⟨W3, hW3⟩ : ∃ W3, W3 = W2.drew.setRow W.heap.size R2 := ⟨_, rfl⟩
  rw [← hW3] at hcpB
  have hWN3 : W3.heap[W.heap.size]? = some (.cells R2 51 (0, 0)) := by rw [hW3]; exact setRow_heap W2.drew W.heap.size R1 R2 51 (0, 0) hWN2
  have hgr : W.grownBy W3 none := by
    rw [hW3, hW2, hW1]
    refine ⟨rfl, rfl, rfl, ?_, fun k hk _ => ?_⟩
    · simp
    · have := hWo2 k hk
      rw [setRow_other _ _ _ _ (by omega)]
      rw [hW2, hW1] at this
      exact this
  have hdr : W.drawn ≤ W3.drawn := by
    rw [hW3, hW2, hW1]
    show W.drawn ≤ W.drawn + 1 + 1
    omega
  have hR2s : R2.size = G * 32 := by
    rw [hR2]
    simp only [List.size_toArray, List.length_append, hl1, List.length_take, List.length_drop, Array.length_toList, hR1s]; omega
  have hR2t : R2.toList.take ((n + 1) * 32) = cur.toList.take (i * 32) ++ cur2.toList.take 32 ++ (cur.toList.drop (i * 32)).take ((n - i) * 32) := by
    have e1 : R1.toList.take ((i + 1) * 32) = cur.toList.take (i * 32) ++ cur2.toList.take 32 := by
      rw [hR1, hRt]
      show (_ ++ _ ++ _ : List Value).take _ = _
      rw [List.take_append_of_le_length (by rw [List.length_append, hl2, List.length_take, Array.length_toList]; omega), List.take_of_length_le (by rw [List.length_append, hl2, List.length_take, Array.length_toList]; omega)]
    rw [hR2, e1]
    show (_ ++ _ ++ _ : List Value).take _ = _
    rw [List.take_append_of_le_length (by simp only [List.length_append, hl2, hl1, List.length_take, Array.length_toList]; omega), List.take_of_length_le (by simp only [List.length_append, hl2, hl1, List.length_take, Array.length_toList]; omega)]
  have hw1 : IntKind.i64.wrap ((i : Int) + 1) = (i : Int) + 1 := by rw [IntKind.wrap_i64]; omega
  have hw2 : IntKind.i64.wrap ((n : Int) + 1) = (n : Int) + 1 := by rw [IntKind.wrap_i64]; omega
  have hw3 : IntKind.i64.wrap ((n : Int) + 1 - (i : Int)) = (n : Int) + 1 - (i : Int) := by rw [IntKind.wrap_i64]; omega
  clear h1 h2 hG hR1 hR2 hl1 hl2 hold hROW hRt hW1 hW2 hW3 hWo hWo2 hWN hWN2 hkk hik hzr hby
  have hb1 : (0 : Int) ≤ (i : Int) + 1 := by omega
  have mixed : Tryz.prog.follows Departure.mixedOrders = true := by kernel_rfl
  have z51 := Tryz.sizeOf51
  have hin : i ≤ n := by omega
  have hic : i ≤ c := by omega
  have hb2 : ¬ (c = i + 1) ∨ True := .inr trivial
  have hb3 : (i : Int) ≤ (n : Int) := by omega
  have hb4 : ¬ (c = i) := by omega
  have hGi : ¬ (G = i) := by omega
  have hGi1 : ¬ (G = i + 1) := by omega
  go_enter Tryz.func291, Tryz.ntmps291
  go_wp2_with (first
    | (at_builtin; refine Lib.wpList_append_run _ rfl _ _ _ _ rfl _ _ rfl rfl _ _ (hrz _) ?_)
    | (at_builtin; refine wpList_copy_runI _ rfl _ _ 26 26 rfl _ _ rfl rfl (hcpA _ _) ?_))
  go_region_law_o (refine step_copy_runI rfl _ _ 26 26 rfl _ _ (by simp [Act.eval, Act.put]) (by simp [Act.eval, Act.put]) (hcpB _ _ _) ?_)
  go_wp2
  go_ret
  exact ⟨G, R2, rfl, hGn, hGm, hgr, hdr, hWN3, hR2s, hR2t⟩
set_option maxHeartbeats 4000000 in
set_option maxRecDepth 100000 in
theorem ins_end (W : World) (base : Nat) (A : Option Addr) (n c g2 c2 : Nat) (cs vs : List Value) (ho : OwnR W base 51 32 A c n cs) (hbase : base ≤ W.heap.size) (hbig : (n + 1) * 272 ≤ 140737488355328)
    (hvl : vs.length = 32) (hvs : CellsAt W ⟨g2, 0, none⟩ vs) (h2 : ∀ v ∈ vs, v.oneCell' = true) :
    Calls Tryz.prog 291 #[.slice A n c, .int .i64 n, .slice (some ⟨g2, 0, none⟩) 1 c2] W fun e w' =>
      ∃ (A' : Option Addr) (c' : Nat), e = .returned (.slice A' (n + 1) c') ∧ OwnR w' base 51 32 A' c' (n + 1) (cs ++ vs) ∧ W.grownBy w' (A.map (·.block)) ∧ W.drawn ≤ w'.drawn ∧
        ∀ k, A'.map (·.block) = some k → A.map (·.block) = some k ∨ W.heap.size ≤ k := by
  have hm63 : maxLen = 9223372036854775807 := rfl
  have hps : pSlc Tryz.prog 26 = some (51, 32) := by kernel_rfl
  have hpb : pBy Tryz.prog 51 = some 272 := by kernel_rfl
  have hpz : (pZero Tryz.prog 51).map (·.cells.size) = some 32 := by kernel_rfl
  obtain ⟨z, hz, hzc⟩ : ∃ z, pZero Tryz.prog 51 = some z ∧ z.cells.size = 32 := by
    cases hq : pZero Tryz.prog 51 with
    | none => rw [hq] at hpz; cases hpz
    | some z => rw [hq] at hpz; exact ⟨z, rfl, by simpa using hpz⟩
  obtain ⟨A', c', W', hr, ho', hg, hb⟩ := run_append_R (P := Tryz.prog) (W := W) (ty := 26) (A2 := some ⟨g2, 0, none⟩) (c2 := c2) (m := 1) (news := vs) hps hpb hz hzc (by decide) (by decide) ho (by rw [hvl]) (fun a ha => by cases ha; exact hvs) (fun h => by cases h) h2 hbig hbase
  have hdr := run_drawn _ _ _ _ hr
  have mixed : Tryz.prog.follows Departure.mixedOrders = true := by kernel_rfl
  have z51 := Tryz.sizeOf51
  have hcall : Calls Tryz.prog 291 #[.slice A n c, .int .i64 n, .slice (some ⟨g2, 0, none⟩) 1 c2] W fun e w' => e = .returned (.slice A' (n + 1) c') ∧ w' = W' := by
    clear ho' hg hb hdr hvs h2
    rcases ho.2 with ⟨rfl, rfl, rfl⟩ | ⟨g, cur, fr, rfl, _, _, hnc, hcm, _⟩
    · clear ho
      go_enter Tryz.func291, Tryz.ntmps291
      go_wp2_with (at_builtin; refine Lib.wpList_append_run _ rfl _ _ _ _ rfl _ _ rfl rfl _ _ hr ?_)
      go_ret
      exact ⟨rfl, rfl⟩
    · clear ho
      have hn0 : (0 : Int) ≤ (n : Int) := by omega
      by_cases hcn : c = n
      · go_enter Tryz.func291, Tryz.ntmps291
        go_wp2_with (at_builtin; refine Lib.wpList_append_run _ rfl _ _ _ _ rfl _ _ rfl rfl _ _ hr ?_)
        go_ret
        exact ⟨rfl, rfl⟩
      · go_enter Tryz.func291, Tryz.ntmps291
        go_wp2_with (at_builtin; refine Lib.wpList_append_run _ rfl _ _ _ _ rfl _ _ rfl rfl _ _ hr ?_)
        go_ret
        exact ⟨rfl, rfl⟩
  refine hcall.mono ?_
  rintro e w' ⟨rfl, rfl⟩
  exact ⟨A', c', rfl, ho', hg, hdr, hb⟩
/-- **slices.Insert of one rule into a row of the call's own.** -/
theorem ins_ok {α : Type} {κ : Kd α} (hκ : κ.sz = 32) {M : Nat → Prop} {w0 : World} {bs : List Box} {rs : List Row} {fs : List Fact} {W : World} {A A2 : Option Addr} {c c2 : Nat} {xs ys o : List α} {i : Int}
    (hS : St M w0 bs (⟨κ, 51, A, c, xs⟩ :: ⟨κ, 51, A2, c2, ys⟩ :: rs) fs W) (h : insO 272 xs i ys = some o) :
    Calls Tryz.prog 291 #[.slice A xs.length c, .int .i64 i, .slice A2 ys.length c2] W fun e W' => ∃ v, e = .returned v ∧ ∃ (A' : Option Addr) (c' : Nat), v = .slice A' o.length c' ∧ St M w0 bs (⟨κ, 51, A', c', o⟩ :: rs) fs W' := by
  obtain ⟨hi0, hin, hy1, hbig, rfl⟩ := insO_of h
  obtain ⟨p, rfl⟩ := Int.eq_ofNat_of_zero_le hi0
  rw [Int.toNat_natCast]
  have hpn : p ≤ xs.length := by omega
  obtain ⟨css, he, ho⟩ := hS.rw_ (i := 0) rfl
  obtain ⟨css2, he2, ho2⟩ := hS.rw_ (i := 1) rfl
  dsimp only at he ho he2 ho2
  have hS1 : St M w0 bs (⟨κ, 51, A, c, xs⟩ :: rs) fs W := hS.less (List.Sublist.refl _) (List.Sublist.cons_cons _ (List.sublist_cons_self _ _)) fun f hf => hf
  obtain ⟨css', he', ho'⟩ := hS1.rw_ (i := 0) rfl
  have hne := hS.row_ne (i := 1) (j := 0) rfl rfl (by decide)
  rw [hκ] at ho ho2
  rcases ho2.2 with ⟨_, _, hn⟩ | ⟨g2, cur2, fr2, rfl, hb2, hg2, hnc2, hcm2, hcs2, hfr2, ht2⟩
  · omega
  have hfr2' : fr2 = (0, 0) := by rcases hfr2 with h | h; exact h; exact absurd h.1 (by decide)
  subst hfr2'
  rw [hy1, Nat.one_mul] at ht2
  have hk2 : 32 ≤ cur2.size := by omega
  have hvl : (cur2.toList.take 32).length = 32 := by rw [List.length_take, Array.length_toList]; omega
  have h2 : ∀ v ∈ cur2.toList.take 32, v.oneCell' = true := by rw [ht2]; exact he2.ones
  have hvs : CellsAt W ⟨g2, 0, none⟩ (cur2.toList.take 32) := by rw [ht2]; exact ho2.cells rfl
  have hlens := he.lens
  rw [hκ] at hlens
  have hcn : css.length = xs.length := he.1
  have hEls : Els κ (Mut M bs (⟨κ, 51, A, c, xs⟩ :: rs)) W (css.take p ++ css2 ++ css.drop p) (xs.take p ++ ys ++ xs.drop p) := by
    have s : Stp (Mut M bs (⟨κ, 51, A, c, xs⟩ :: ⟨κ, 51, some ⟨g2, 0, none⟩, c2, ys⟩ :: rs)) W (Mut M bs (⟨κ, 51, A, c, xs⟩ :: rs)) W := Stp.mut fun k _ hk => by
      rcases hk with a | a | ⟨r, hr, e⟩
      · exact .inl a
      · exact .inr (.inl a)
      · refine .inr (.inr ⟨r, ?_, e⟩)
        rcases List.mem_cons.1 hr with hr | hr
        · exact List.mem_cons.2 (.inl hr)
        · exact List.mem_cons_of_mem _ (List.mem_cons_of_mem _ hr)
    exact (((he.take p).append he2).append (he.drop p)).st s
  have hflat : (css.take p ++ css2 ++ css.drop p).flatten = css.flatten.take (p * 32) ++ cur2.toList.take 32 ++ css.flatten.drop (p * 32) := by
    rw [List.flatten_append, List.flatten_append, flatten_take css p hlens, flatten_drop p hlens, ht2]
  have holen : (xs.take p ++ ys ++ xs.drop p).length = xs.length + 1 := by
    rw [List.length_append, List.length_append, List.length_take, List.length_drop, hy1]; omega
  rw [holen]
  rw [hy1]
  rcases Nat.lt_or_ge p xs.length with hlt | hge
  · -- amid the row
    rcases ho.2 with ⟨_, _, hn⟩ | ⟨g, cur, fr, rfl, hbg, hg, hnc, hcm, hcs, hfr, ht⟩
    · omega
    have hfr' : fr = (0, 0) := by rcases hfr with h | h; exact h; exact absurd h.1 (by decide)
    subst hfr'
    have hcl : cur.toList.length = cur.size := rfl
    have hgne : g2 ≠ g := fun e => hne g2 rfl (by rw [e]; rfl)
    have h1 : ∀ v ∈ cur.toList.take (xs.length * 32), v.oneCell' = true := by rw [ht]; exact he.ones
    have hX : (cur.toList.drop (p * 32)).take ((xs.length - p) * 32) = css.flatten.drop (p * 32) := by
      rw [← ht, List.drop_take, Nat.sub_mul]
    have hT : cur.toList.take (p * 32) = css.flatten.take (p * 32) := by
      rw [← ht, List.take_take, Nat.min_eq_left (by omega)]
    have hXl : ((cur.toList.drop (p * 32)).take ((xs.length - p) * 32)).length = (xs.length - p) * 32 := by
      rw [List.length_take, List.length_drop, hcl]; omega
    rcases Nat.lt_or_ge c (xs.length + 1) with hfull | hroom
    · refine (ins_grow W g xs.length c p g2 c2 cur cur2 hlt hnc hfull hbig hcs hk2 hg hg2 h1 h2).mono ?_
      rintro e w' ⟨G, R, rfl, hG1, hG2, hgr, hdr, hN, hRs, hRt⟩
      refine ⟨_, rfl, _, _, rfl, ?_⟩
      refine hS1.set_row (i := 0) rfl ⟨κ, 51, some ⟨W.heap.size, 0, none⟩, G, xs.take p ++ ys ++ xs.drop p⟩ (grown_weak hgr _) hdr _ hEls ?_ (fun k hk => .inr (by
        have : W.heap.size = k := by simpa [Row.blk] using hk
        omega))
      show OwnR w' w0.heap.size 51 κ.sz (some ⟨W.heap.size, 0, none⟩) G (xs.take p ++ ys ++ xs.drop p).length _
      rw [hκ, holen, hflat]
      refine ⟨?_, .inr ⟨W.heap.size, R, (0, 0), rfl, hS.below.size, hN, hG1, hG2, by rw [hRs]; exact Nat.le_refl _, .inl rfl, ?_⟩⟩
      · rw [← hT, ← hX]
        simp only [List.length_append, List.length_take, hXl, hvl, hcl]; omega
      · rw [hRt, hT, hX]
    · obtain ⟨C1, hC1⟩ : ∃ C1 : Array Value, C1 = (cur.toList.take ((p + 1) * 32) ++ (cur.toList.drop (p * 32)).take ((xs.length - p) * 32) ++ cur.toList.drop ((p + 1) * 32 + ((cur.toList.drop (p * 32)).take ((xs.length - p) * 32)).length)).toArray := ⟨_, rfl⟩
      obtain ⟨C2, hC2⟩ : ∃ C2 : Array Value, C2 = (C1.toList.take (p * 32) ++ cur2.toList.take 32 ++ C1.toList.drop (p * 32 + (cur2.toList.take 32).length)).toArray := ⟨_, rfl⟩
      have hC1s : C1.size = cur.size := by
        rw [hC1]
        simp only [List.size_toArray, List.length_append, hXl, List.length_take, List.length_drop, hcl]; omega
      have hC2s : C2.size = cur.size := by
        rw [hC2]
        simp only [List.size_toArray, List.length_append, hvl, List.length_take, List.length_drop, Array.length_toList, hC1s]; omega
      have hC2t : C2.toList.take ((xs.length + 1) * 32) = css.flatten.take (p * 32) ++ cur2.toList.take 32 ++ css.flatten.drop (p * 32) := by
        have e1 : C1.toList.take (p * 32) = css.flatten.take (p * 32) := by
          rw [hC1, ← hT]
          show (_ ++ _ ++ _ : List Value).take _ = _
          rw [List.append_assoc, List.take_append_of_le_length (by rw [List.length_take, hcl]; omega), List.take_take, Nat.min_eq_left (by omega)]
        have hl1 : (cur.toList.take ((p + 1) * 32)).length = p * 32 + 32 := by rw [List.length_take, hcl]; omega
        have e2 : C1.toList.drop (p * 32 + (cur2.toList.take 32).length) = css.flatten.drop (p * 32) ++ cur.toList.drop ((p + 1) * 32 + ((cur.toList.drop (p * 32)).take ((xs.length - p) * 32)).length) := by
          rw [hvl, hC1, ← hX]
          show (_ ++ _ ++ _ : List Value).drop _ = _
          rw [List.append_assoc, ← hl1, List.drop_left]
        have hl3 : (css.flatten.take (p * 32)).length = p * 32 := by rw [← hT, List.length_take, hcl]; omega
        have hl4 : (css.flatten.drop (p * 32)).length = (xs.length - p) * 32 := by rw [← hX, hXl]
        rw [hC2, e1, e2]
        show (_ ++ _ ++ (_ ++ _) : List Value).take _ = _
        rw [← List.append_assoc, List.take_append_of_le_length (by simp only [List.length_append, hl3, hl4, hvl]; omega), List.take_of_length_le (by simp only [List.length_append, hl3, hl4, hvl]; omega)]
      refine (ins_shift W g xs.length c p g2 c2 cur cur2 hlt hroom hcm hcs hgne hk2 hg hg2 h1 h2 C1 C2 hC1 hC2).mono ?_
      rintro e w' ⟨rfl, rfl⟩
      refine ⟨_, rfl, _, _, rfl, ?_⟩
      have hN1 := setRow_heap W.drew g cur C1 51 (0, 0) hg
      refine hS1.set_row (i := 0) rfl ⟨κ, 51, some ⟨g, 0, none⟩, c, xs.take p ++ ys ++ xs.drop p⟩ ⟨rfl, rfl, rfl, by simp, fun k hk hkg => ?_⟩ (Nat.le_succ _) _ hEls ?_ (fun k hk => .inl hk)
      · have hkg' : k ≠ g := fun e => hkg (by rw [e]; rfl)
        rw [setRow_other _ g k _ hkg', setRow_other _ g k _ hkg']
        rfl
      · show OwnR _ w0.heap.size 51 κ.sz (some ⟨g, 0, none⟩) c (xs.take p ++ ys ++ xs.drop p).length _
        rw [hκ, holen, hflat]
        refine ⟨?_, .inr ⟨g, C2, (0, 0), rfl, hbg, setRow_heap _ g C1 C2 51 (0, 0) hN1, hroom, hcm, by rw [hC2s]; exact hcs, .inl rfl, hC2t⟩⟩
        rw [← hT, ← hX]
        simp only [List.length_append, List.length_take, hXl, hvl, hcl]; omega
  · -- at its end
    obtain rfl : p = xs.length := by omega
    refine (ins_end W w0.heap.size A xs.length c g2 c2 css.flatten (cur2.toList.take 32) ho hS.below.size hbig hvl hvs h2).mono ?_
    rintro e w' ⟨A', c', rfl, hO, hgr, hdr, hb⟩
    refine ⟨_, rfl, _, _, rfl, ?_⟩
    refine hS1.set_row (i := 0) rfl ⟨κ, 51, A', c', xs.take xs.length ++ ys ++ xs.drop xs.length⟩ hgr hdr _ hEls ?_ hb
    show OwnR w' w0.heap.size 51 κ.sz A' c' (xs.take xs.length ++ ys ++ xs.drop xs.length).length _
    have hfl : css.flatten.length = xs.length * 32 := by rw [flatten_length hlens, hcn]
    rw [hκ, holen, hflat, List.take_of_length_le (by omega), List.drop_eq_nil_of_le (by omega), List.append_nil]
    exact hO
end Go.Proofs.YtgfnkigoaajllaaGreat
