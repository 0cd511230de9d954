/- What calls of the Go functions come to. -/
import Derived.Test.YtangebngeeamoaaW0
set_option linter.unusedVariables false
set_option linter.unusedSimpArgs false
set_option maxRecDepth 100000
set_option maxHeartbeats 4000000
namespace Go.Proofs.Ytangebngeeamoaa
open Go.RowKit Go.Pod
theorem ok_cube_Compare (k : Nat) {M : Nat → Prop} {w0 : World} {u0 : TCube} {u1 : TCube} {o : Int} (hS : St M w0 [] [] [] w0) (h : cube_Compare k u0 u1 = some o) :
    Calls Try.prog 95 #[.agg (TCube.enc u0).toArray, .agg (TCube.enc u1).toArray] w0 fun e W' => ∃ v, e = .returned v ∧ (v = .int .i64 (o) ∧ St M w0 [] [] [] W') := by
  unfold cube_Compare at h
  refine calls_start (args := [.agg (TCube.enc u0).toArray, .agg (TCube.enc u1).toArray]) Try.func95 rfl rfl (Nat.le_of_ble_eq_true rfl) (fun a hF => ?_)
  refine wp_seq ?_
  refine wp_reg ?_
  refine sq_box hF hS rfl rfl (by decide) (fun b1 a W hF hS => ?_)
  refine sq_box hF hS rfl rfl (by decide) (fun b2 a W hF hS => ?_)
  refine sq_val (v_assign hF rfl) hF (by decide) (fun a hF => ?_)
  refine sq_nil ?_
  refine then_n ?_
  refine wp_seq ?_
  refine wp_drawn (fun _ => St M w0 [⟨b2, TCube.enc u1, 26⟩, ⟨b1, TCube.enc u0, 26⟩] [] []) (fun _ => false) rfl hS (fun W hB0 hR0 => ?_)
  have hS := hR0
  have hQC : (fun _ => St M w0 [⟨b2, TCube.enc u1, 26⟩, ⟨b1, TCube.enc u0, 26⟩] [] []) W W := hS
  refine e_val (listed' := #[true, false, false, false, false, false, false, false, false, false, false, false, false]) 0 rfl (by kernel_rfl) (by kernel_rfl) (fun _ _ _ h => h) (fun W => (v_fieldAddr hF rfl pf26_1)) hF (by decide) (fun a hF => ?_)
  refine e_valS (listed' := #[true, true, false, false, false, false, false, false, false, false, false, false, false]) 1 rfl (by kernel_rfl) (by kernel_rfl) (fun _ _ _ h => h) (fun W hC => (v_load (cs := A12u64.enc u0.Care) hF rfl pa24 ps24 (cells_sub (vs := A12u64.enc u0.Care) (hC.bc (i := 1) rfl) rfl rfl))) hQC (by kernel_rfl) hF (by decide) (fun a hF => ?_)
  refine e_val (listed' := #[true, true, true, false, false, false, false, false, false, false, false, false, false]) 2 rfl (by kernel_rfl) (by kernel_rfl) (fun _ _ _ h => h) (fun W => (v_fieldAddr hF rfl pf26_1)) hF (by decide) (fun a hF => ?_)
  refine e_valS (listed' := #[true, true, true, true, false, false, false, false, false, false, false, false, false]) 3 rfl (by kernel_rfl) (by kernel_rfl) (fun _ _ _ h => h) (fun W hC => (v_load (cs := A12u64.enc u1.Care) hF rfl pa24 ps24 (cells_sub (vs := A12u64.enc u1.Care) (hC.bc (i := 0) rfl) rfl rfl))) hQC (by kernel_rfl) hF (by decide) (fun a hF => ?_)
  refine e_val (listed' := #[true, true, true, true, false, true, false, false, false, false, false, false, false]) 5 rfl (by kernel_rfl) (by kernel_rfl) (fun _ _ _ h => h) (fun W => (v_fieldAddr hF rfl pf26_0)) hF (by decide) (fun a hF => ?_)
  refine e_valS (listed' := #[true, true, true, true, false, true, true, false, false, false, false, false, false]) 6 rfl (by kernel_rfl) (by kernel_rfl) (fun _ _ _ h => h) (fun W hC => (v_load (cs := A12u64.enc u0.Value) hF rfl pa24 ps24 (cells_sub (vs := A12u64.enc u0.Value) (hC.bc (i := 1) rfl) rfl rfl))) hQC (by kernel_rfl) hF (by decide) (fun a hF => ?_)
  refine e_val (listed' := #[true, true, true, true, false, true, true, true, false, false, false, false, false]) 7 rfl (by kernel_rfl) (by kernel_rfl) (fun _ _ _ h => h) (fun W => (v_fieldAddr hF rfl pf26_0)) hF (by decide) (fun a hF => ?_)
  refine e_valS (listed' := #[true, true, true, true, false, true, true, true, true, false, false, false, false]) 8 rfl (by kernel_rfl) (by kernel_rfl) (fun _ _ _ h => h) (fun W hC => (v_load (cs := A12u64.enc u1.Value) hF rfl pa24 ps24 (cells_sub (vs := A12u64.enc u1.Value) (hC.bc (i := 0) rfl) rfl rfl))) hQC (by kernel_rfl) hF (by decide) (fun a hF => ?_)
  refine e_one (listed' := #[true, true, true, true, true, true, true, true, true, false, false, false, false]) 4 rfl (by kernel_rfl) (by kernel_rfl) ?_
  obtain ⟨x3, hx4, h⟩ := bindS h
  refine sq_call hF pc143 rfl (by decide) (ok_head_Compare k (hS.enter trivial) hx4) (fun v W hR a hF => ?_)
  obtain ⟨rfl, hT5⟩ := hR
  have hS := hS.grow hT5.below
  refine sq_nil (then_j ⟨?_, ?_⟩)
  · exact fun _ _ => hS
  ·
   have hQC : (fun _ => St M w0 [⟨b2, TCube.enc u1, 26⟩, ⟨b1, TCube.enc u0, 26⟩] [] []) W W := hS
   refine e_one (listed' := #[true, true, true, true, true, true, true, true, true, true, false, false, false]) 9 rfl (by kernel_rfl) (by kernel_rfl) ?_
   obtain ⟨x6, hx7, h⟩ := bindS h
   refine sq_call hF pc143 rfl (by decide) (ok_head_Compare k (hS.enter trivial) hx7) (fun v W hR a hF => ?_)
   obtain ⟨rfl, hT8⟩ := hR
   have hS := hS.grow hT8.below
   refine sq_nil (then_j ⟨?_, ?_⟩)
   · exact fun _ _ => hS
   ·
    have hQC : (fun _ => St M w0 [⟨b2, TCube.enc u1, 26⟩, ⟨b1, TCube.enc u0, 26⟩] [] []) W W := hS
    refine e_one (listed' := #[true, true, true, true, true, true, true, true, true, true, true, false, false]) 10 rfl (by kernel_rfl) (by kernel_rfl) ?_
    refine sq_buildSlice (κ := (kInt .i64)) (xs := [.tmp 9, .tmp 14]) (ys := [x3, x6]) hF hS rfl rfl rfl (Els.cons rfl (Els.cons rfl (Els.nil _ _ _))) rfl psl76 pz3 rfl (by decide) (by decide) (by decide) (fun A9 c10 a W hF hS => ?_)
    refine sq_nil (then_j ⟨?_, ?_⟩)
    · exact fun _ _ => (hS.keep (List.Sublist.refl _) (List.nil_sublist _) trivial)
    ·
     have hQC : (fun _ => St M w0 [⟨b2, TCube.enc u1, 26⟩, ⟨b1, TCube.enc u0, 26⟩] [] []) W W := (hS.keep (List.Sublist.refl _) (List.nil_sublist _) trivial)
     refine e_one (listed' := #[true, true, true, true, true, true, true, true, true, true, true, true, false]) 11 rfl (by kernel_rfl) (by kernel_rfl) ?_
     obtain ⟨x11, hx12, h⟩ := bindS h
     refine sq_call hF pc138 rfl (by decide) (ok_cmp_Or_int k ((hS.freeze (i := 0) rfl (posB rfl)).enter ⟨⟨0, rfl⟩, trivial⟩) hx12) (fun v W hR a hF => ?_)
     obtain ⟨rfl, hT13⟩ := hR
     have hS := hS.grow hT13.below
     refine sq_nil (then_j ⟨?_, ?_⟩)
     · exact fun _ _ => (hS.keep (List.Sublist.refl _) (List.nil_sublist _) trivial)
     ·
      have hQC : (fun _ => St M w0 [⟨b2, TCube.enc u1, 26⟩, ⟨b1, TCube.enc u0, 26⟩] [] []) W W := (hS.keep (List.Sublist.refl _) (List.nil_sublist _) trivial)
      refine e_val (listed' := #[true, true, true, true, true, true, true, true, true, true, true, true, true]) 12 rfl (by kernel_rfl) (by kernel_rfl) (fun _ _ _ h => h) (fun W => (v_assign hF rfl)) hF (by decide) (fun a hF => ?_)
      refine e_done (by kernel_rfl) ?_ _
      refine then_n ?_
      refine wp_ret ?_
      obtain rfl := Option.some.inj h
      exact ret1 hF rfl (rv_tmp hF rfl) ⟨_, rfl, rfl, (hS.keep (List.nil_sublist _) (List.nil_sublist _) trivial)⟩

theorem ok_region_compare (k : Nat) {M : Nat → Prop} {w0 : World} {u0 : TRegion} {u1 : TRegion} {o : Int} (hS : St M w0 [] [] [] w0) (h : region_compare k u0 u1 = some o) :
    Calls Try.prog 87 #[.agg (TRegion.enc u0).toArray, .agg (TRegion.enc u1).toArray] w0 fun e W' => ∃ v, e = .returned v ∧ (v = .int .i64 (o) ∧ St M w0 [] [] [] W') := by
  unfold region_compare at h
  refine calls_start (args := [.agg (TRegion.enc u0).toArray, .agg (TRegion.enc u1).toArray]) Try.func87 rfl rfl (Nat.le_of_ble_eq_true rfl) (fun a hF => ?_)
  refine wp_seq ?_
  refine wp_reg ?_
  refine sq_box hF hS rfl rfl (by decide) (fun b1 a W hF hS => ?_)
  refine sq_box hF hS rfl rfl (by decide) (fun b2 a W hF hS => ?_)
  refine sq_val (v_assign hF rfl) hF (by decide) (fun a hF => ?_)
  refine sq_nil ?_
  refine then_n ?_
  refine wp_seq ?_
  refine wp_drawn (fun _ => St M w0 [⟨b2, TRegion.enc u1, 63⟩, ⟨b1, TRegion.enc u0, 63⟩] [] []) (fun _ => false) rfl hS (fun W hB0 hR0 => ?_)
  have hS := hR0
  have hQC : (fun _ => St M w0 [⟨b2, TRegion.enc u1, 63⟩, ⟨b1, TRegion.enc u0, 63⟩] [] []) W W := hS
  refine e_val (listed' := #[true, false, false, false, false, false, false, false, false, false, false, false, false]) 0 rfl (by kernel_rfl) (by kernel_rfl) (fun _ _ _ h => h) (fun W => (v_fieldAddr hF rfl pf63_0)) hF (by decide) (fun a hF => ?_)
  refine e_valS (listed' := #[true, true, false, false, false, false, false, false, false, false, false, false, false]) 1 rfl (by kernel_rfl) (by kernel_rfl) (fun _ _ _ h => h) (fun W hC => (v_load1 hF rfl pa3 (cells_sub (vs := [.int .i64 (u0.Unit)]) (hC.bc (i := 1) rfl) rfl rfl))) hQC (by kernel_rfl) hF (by decide) (fun a hF => ?_)
  refine e_val (listed' := #[true, true, true, false, false, false, false, false, false, false, false, false, false]) 2 rfl (by kernel_rfl) (by kernel_rfl) (fun _ _ _ h => h) (fun W => (v_fieldAddr hF rfl pf63_0)) hF (by decide) (fun a hF => ?_)
  refine e_valS (listed' := #[true, true, true, true, false, false, false, false, false, false, false, false, false]) 3 rfl (by kernel_rfl) (by kernel_rfl) (fun _ _ _ h => h) (fun W hC => (v_load1 hF rfl pa3 (cells_sub (vs := [.int .i64 (u1.Unit)]) (hC.bc (i := 0) rfl) rfl rfl))) hQC (by kernel_rfl) hF (by decide) (fun a hF => ?_)
  refine e_val (listed' := #[true, true, true, true, false, true, false, false, false, false, false, false, false]) 5 rfl (by kernel_rfl) (by kernel_rfl) (fun _ _ _ h => h) (fun W => (v_fieldAddr hF rfl pf63_1)) hF (by decide) (fun a hF => ?_)
  refine e_valS (listed' := #[true, true, true, true, false, true, true, false, false, false, false, false, false]) 6 rfl (by kernel_rfl) (by kernel_rfl) (fun _ _ _ h => h) (fun W hC => (v_load (cs := TCube.enc u0.Cube) hF rfl pa26 ps26 (cells_sub (vs := TCube.enc u0.Cube) (hC.bc (i := 1) rfl) rfl rfl))) hQC (by kernel_rfl) hF (by decide) (fun a hF => ?_)
  refine e_val (listed' := #[true, true, true, true, false, true, true, true, false, false, false, false, false]) 7 rfl (by kernel_rfl) (by kernel_rfl) (fun _ _ _ h => h) (fun W => (v_fieldAddr hF rfl pf63_1)) hF (by decide) (fun a hF => ?_)
  refine e_valS (listed' := #[true, true, true, true, false, true, true, true, true, false, false, false, false]) 8 rfl (by kernel_rfl) (by kernel_rfl) (fun _ _ _ h => h) (fun W hC => (v_load (cs := TCube.enc u1.Cube) hF rfl pa26 ps26 (cells_sub (vs := TCube.enc u1.Cube) (hC.bc (i := 0) rfl) rfl rfl))) hQC (by kernel_rfl) hF (by decide) (fun a hF => ?_)
  refine e_one (listed' := #[true, true, true, true, true, true, true, true, true, false, false, false, false]) 4 rfl (by kernel_rfl) (by kernel_rfl) ?_
  obtain ⟨x3, hx4, h⟩ := bindS h
  refine sq_call hF pc139 rfl (by decide) (ok_cmp_Compare_int (hS.enter trivial) hx4) (fun v W hR a hF => ?_)
  obtain ⟨rfl, hT5⟩ := hR
  have hS := hS.grow hT5.below
  refine sq_nil (then_j ⟨?_, ?_⟩)
  · exact fun _ _ => hS
  ·
   have hQC : (fun _ => St M w0 [⟨b2, TRegion.enc u1, 63⟩, ⟨b1, TRegion.enc u0, 63⟩] [] []) W W := hS
   refine e_one (listed' := #[true, true, true, true, true, true, true, true, true, true, false, false, false]) 9 rfl (by kernel_rfl) (by kernel_rfl) ?_
   obtain ⟨x6, hx7, h⟩ := bindS h
   refine sq_call hF pc95 rfl (by decide) (ok_cube_Compare k (hS.enter trivial) hx7) (fun v W hR a hF => ?_)
   obtain ⟨rfl, hT8⟩ := hR
   have hS := hS.grow hT8.below
   refine sq_nil (then_j ⟨?_, ?_⟩)
   · exact fun _ _ => hS
   ·
    have hQC : (fun _ => St M w0 [⟨b2, TRegion.enc u1, 63⟩, ⟨b1, TRegion.enc u0, 63⟩] [] []) W W := hS
    refine e_one (listed' := #[true, true, true, true, true, true, true, true, true, true, true, false, false]) 10 rfl (by kernel_rfl) (by kernel_rfl) ?_
    refine sq_buildSlice (κ := (kInt .i64)) (xs := [.tmp 9, .tmp 14]) (ys := [x3, x6]) hF hS rfl rfl rfl (Els.cons rfl (Els.cons rfl (Els.nil _ _ _))) rfl psl76 pz3 rfl (by decide) (by decide) (by decide) (fun A9 c10 a W hF hS => ?_)
    refine sq_nil (then_j ⟨?_, ?_⟩)
    · exact fun _ _ => (hS.keep (List.Sublist.refl _) (List.nil_sublist _) trivial)
    ·
     have hQC : (fun _ => St M w0 [⟨b2, TRegion.enc u1, 63⟩, ⟨b1, TRegion.enc u0, 63⟩] [] []) W W := (hS.keep (List.Sublist.refl _) (List.nil_sublist _) trivial)
     refine e_one (listed' := #[true, true, true, true, true, true, true, true, true, true, true, true, false]) 11 rfl (by kernel_rfl) (by kernel_rfl) ?_
     obtain ⟨x11, hx12, h⟩ := bindS h
     refine sq_call hF pc138 rfl (by decide) (ok_cmp_Or_int k ((hS.freeze (i := 0) rfl (posB rfl)).enter ⟨⟨0, rfl⟩, trivial⟩) hx12) (fun v W hR a hF => ?_)
     obtain ⟨rfl, hT13⟩ := hR
     have hS := hS.grow hT13.below
     refine sq_nil (then_j ⟨?_, ?_⟩)
     · exact fun _ _ => (hS.keep (List.Sublist.refl _) (List.nil_sublist _) trivial)
     ·
      have hQC : (fun _ => St M w0 [⟨b2, TRegion.enc u1, 63⟩, ⟨b1, TRegion.enc u0, 63⟩] [] []) W W := (hS.keep (List.Sublist.refl _) (List.nil_sublist _) trivial)
      refine e_val (listed' := #[true, true, true, true, true, true, true, true, true, true, true, true, true]) 12 rfl (by kernel_rfl) (by kernel_rfl) (fun _ _ _ h => h) (fun W => (v_assign hF rfl)) hF (by decide) (fun a hF => ?_)
      refine e_done (by kernel_rfl) ?_ _
      refine then_n ?_
      refine wp_ret ?_
      obtain rfl := Option.some.inj h
      exact ret1 hF rfl (rv_tmp hF rfl) ⟨_, rfl, rfl, (hS.keep (List.nil_sublist _) (List.nil_sublist _) trivial)⟩

theorem ok_slices_Compact_Region (k : Nat) {M : Nat → Prop} {w0 : World} {bs : List Box} {rs : List Row} {fs : List Fact} {W0 : World} {u0 : List TRegion} {A0_0 : Option Addr} {c0_0 : Nat} {o : List TRegion} (hS : St M w0 (bs) (⟨k_TRegion, 63, A0_0, c0_0, u0⟩ :: rs) (fs) W0) (h : slices_Compact_Region k u0 = some o) :
    Calls Try.prog 88 #[.slice A0_0 ((u0).length) c0_0] W0 fun e W' => ∃ v, e = .returned v ∧ (∃ (A81 : Option Addr) (c82 : Nat), v = .slice A81 ((o).length) c82 ∧ St M w0 (bs) (⟨k_TRegion, 63, A81, c82, o⟩ :: rs) (fs) W') := by
  unfold slices_Compact_Region at h
  refine calls_start (args := [.slice A0_0 ((u0).length) c0_0]) Try.func88 rfl rfl (Nat.le_of_ble_eq_true rfl) (fun a hF => ?_)
  refine wp_seq ?_
  refine wp_reg ?_
  refine sq_val (v_assign hF rfl) hF (by decide) (fun a hF => ?_)
  refine sq_nil ?_
  refine then_n ?_
  refine wp_seq ?_
  refine wp_seq ?_
  refine wp_reg ?_
  refine sq_val (v_move hF rfl) hF (by decide) (fun a hF => ?_)
  refine sq_val (v_len hF rfl pu57) hF (by decide) (fun a hF => ?_)
  refine sq_val (v_lss hF rfl rfl) hF (by decide) (fun a hF => ?_)
  refine sq_nil ?_
  refine then_n ?_
  refine wp_if hF rfl (fun he1 => ?_) (fun he1 => ?_)
  ·
   replace h := ifT he1 h
   refine wp_seq ?_
   refine wp_reg ?_
   refine sq_val (v_move hF rfl) hF (by decide) (fun a hF => ?_)
   refine sq_val (v_assign hF rfl) hF (by decide) (fun a hF => ?_)
   refine sq_nil ?_
   refine then_n ?_
   refine wp_ret ?_
   refine then_r ?_
   obtain rfl := Option.some.inj h
   exact ret1 hF rfl (rv_tmp hF rfl) ⟨_, rfl, A0_0, c0_0, rfl, hS⟩
  ·
   replace h := ifF he1 h
   refine wp_skip ?_
   refine then_n ?_
   refine wp_seq ?_
   refine wp_seq ?_
   refine wp_reg ?_
   refine sq_val (v_assign hF rfl) hF (by decide) (fun a hF => ?_)
   refine sq_nil ?_
   refine then_n ?_
   obtain ⟨o4, h, hk5⟩ := bindS h
   refine wp_join (fun a W => Lo.brk () = o4 ∧ FH 61 [(0, .slice A0_0 ((u0).length) c0_0)] a ∧ St M w0 (bs) (⟨k_TRegion, 63, A0_0, c0_0, u0⟩ :: rs) (fs) W) (fun a W hJ => ?_) ?_
   ·
    obtain ⟨rfl, hF, hS⟩ := hJ
    have h := hk5
    dsimp only at h
    refine then_n ?_
    refine wp_seq ?_
    refine wp_reg ?_
    refine sq_val (v_move hF rfl) hF (by decide) (fun a hF => ?_)
    refine sq_val (v_assign hF rfl) hF (by decide) (fun a hF => ?_)
    refine sq_nil ?_
    refine then_n ?_
    refine wp_ret ?_
    obtain rfl := Option.some.inj h
    exact ret1 hF rfl (rv_tmp hF rfl) ⟨_, rfl, A0_0, c0_0, rfl, hS⟩
   ·
    refine wp_block ?_
    refine wp_loop_fuel (I := fun m a W => ∃ (x3 : Int), FH 61 [(0, .slice A0_0 ((u0).length) c0_0), (3, .int .i64 (x3))] a ∧ St M w0 (bs) (⟨k_TRegion, 63, A0_0, c0_0, u0⟩ :: rs) (fs) W ∧ (slices_Compact_Region.l0 k u0 m x3) = some o4) ?_ (k := k) ⟨1, (hF.keep ⟨rfl, rfl, trivial⟩), hS, h⟩
    rintro m6 a W ⟨x3, hF, hS, h⟩
    cases m6 with
    | zero => cases h
    | succ m6 =>
     rw [slices_Compact_Region.l0] at h
     refine wp_seq ?_
     refine wp_seq ?_
     refine wp_reg ?_
     refine sq_val (v_move hF rfl) hF (by decide) (fun a hF => ?_)
     refine sq_val (v_move hF rfl) hF (by decide) (fun a hF => ?_)
     refine sq_val (v_len hF rfl pu57) hF (by decide) (fun a hF => ?_)
     refine sq_val (v_lss hF rfl rfl) hF (by decide) (fun a hF => ?_)
     refine sq_nil ?_
     refine then_n ?_
     refine wp_if hF rfl (fun he7 => ?_) (fun he7 => ?_)
     ·
      replace h := ifT he7 h
      refine wp_skip ?_
      refine then_n ?_
      refine wp_seq ?_
      refine wp_block ?_
      refine wp_seq ?_
      refine wp_quiet rfl (by kernel_rfl) hS ?_
      refine qt_val (fun W hC => (v_move hF rfl)) hF (by decide) (fun a hF => ?_)
      refine qt_val (fun W hC => (v_move hF rfl)) hF (by decide) (fun a hF => ?_)
      obtain ⟨x8, hx9, h⟩ := bindS h
      obtain ⟨p10, cs11, hA12, hc14, hr15⟩ := Row.ok.at (hS.rw_ (i := 0) rfl) hx9
      obtain rfl : cs11 = TRegion.enc x8 := hr15
      refine qt_val (fun W hC => (v_idx hF rfl hA12 rfl psl57 hx9)) hF (by decide) (fun a hF => ?_)
      refine qt_val (fun W hC => (v_load (cs := TRegion.enc x8) hF rfl pa63 ps63 (hc14.grow hC.1))) hF (by decide) (fun a hF => ?_)
      refine qt_val (fun W hC => (v_move hF rfl)) hF (by decide) (fun a hF => ?_)
      refine qt_val (fun W hC => (v_move hF rfl)) hF (by decide) (fun a hF => ?_)
      refine qt_val (fun W hC => (v_sub hF rfl rfl)) hF (by decide) (fun a hF => ?_)
      obtain ⟨x16, hx17, h⟩ := bindS h
      obtain ⟨p18, cs19, hA20, hc22, hr23⟩ := Row.ok.at (hS.rw_ (i := 0) rfl) hx17
      obtain rfl : cs19 = TRegion.enc x16 := hr23
      refine qt_val (fun W hC => (v_idx hF rfl hA20 rfl psl57 hx17)) hF (by decide) (fun a hF => ?_)
      refine qt_val (fun W hC => (v_load (cs := TRegion.enc x16) hF rfl pa63 ps63 (hc22.grow hC.1))) hF (by decide) (fun a hF => ?_)
      refine qt_val (fun W hC => (eq63 hF rfl rfl).1) hF (by decide) (fun a hF => ?_)
      refine qt_nil ?_
      intro W hC
      have hS := hC.2
      refine then_n ?_
      refine wp_if hF rfl (fun he24 => ?_) (fun he24 => ?_)
      ·
       replace h := ifT he24 h
       refine wp_seq ?_
       refine wp_reg ?_
       refine sq_val (v_move hF rfl) hF (by decide) (fun a hF => ?_)
       refine sq_val (v_move hF rfl) hF (by decide) (fun a hF => ?_)
       obtain ⟨hb25, h⟩ := ifS h
       refine sq_val (v_view (κ := k_TRegion) (lo := x3.toNat) (xs := u0) hF rfl rfl psl57 (.inr ⟨_, _, rfl, by omega, rfl⟩) (by omega) (hS.rw_ (i := 0) rfl).cap) hF (by decide) (fun a hF => ?_)
       refine sq_val (v_assign hF rfl) hF (by decide) (fun a hF => ?_)
       refine sq_nil ?_
       refine then_n ?_
       refine wp_seq ?_
       refine wp_seq ?_
       refine wp_reg ?_
       refine sq_val (v_assign hF rfl) hF (by decide) (fun a hF => ?_)
       refine sq_nil ?_
       refine then_n ?_
       obtain ⟨o36, h, hk37⟩ := bindS h
       refine wp_join (fun a W => ∃ (x34 : List TRegion) (x35 : Int), (x34, x35) = o36 ∧ FH 61 [(0, .slice A0_0 ((x34).length) c0_0), (3, .int .i64 (x35))] a ∧ St M w0 (bs) (⟨k_TRegion, 63, A0_0, c0_0, x34⟩ :: rs) (fs) W) (fun a W hJ => ?_) ?_
       ·
        obtain ⟨x34, x35, rfl, hF, hS⟩ := hJ
        have h := hk37
        dsimp only at h
        refine then_n ?_
        refine wp_seq ?_
        refine wp_reg ?_
        refine sq_val (v_move hF rfl) hF (by decide) (fun a hF => ?_)
        refine sq_val (v_move hF rfl) hF (by decide) (fun a hF => ?_)
        obtain ⟨hb38, h⟩ := ifS h
        refine sq_val (v_view (κ := k_TRegion) (lo := x35.toNat) (xs := x34) hF rfl rfl psl57 (.inr ⟨_, _, rfl, by omega, rfl⟩) (by omega) (hS.rw_ (i := 0) rfl).cap) hF (by decide) (fun a hF => ?_)
        have hcap39 := (hS.rw_ (i := 0) rfl).cap
        refine sq_clearV (lo := x35.toNat) hF hS (i := 0) rfl rfl rfl (by omega) psl57 pz63 rfl (TRegion.enc_one _) (posB rfl) (fun W hS => ?_)
        refine sq_nil ?_
        refine then_n ?_
        refine wp_seq ?_
        refine wp_reg ?_
        refine sq_val (v_move hF rfl) hF (by decide) (fun a hF => ?_)
        refine sq_val (v_move hF rfl) hF (by decide) (fun a hF => ?_)
        refine sq_val (v_cutL (κ := k_TRegion) (ys := (x34.take x35.toNat)) (k := x35.toNat) hF rfl rfl psl57 (.inr ⟨_, _, rfl, by omega, rfl⟩) (by omega) hcap39 (by rw [List.length_take]; omega)) hF (by decide) (fun a hF => ?_)
        refine sq_val (v_assign hF rfl) hF (by decide) (fun a hF => ?_)
        refine sq_nil ?_
        refine then_n ?_
        refine wp_ret ?_
        refine blk_r ?_
        refine then_r ?_
        refine then_r ?_
        refine blk_r ?_
        refine then_r ?_
        refine then_r ?_
        obtain rfl := Option.some.inj h
        have h := hk5
        dsimp only at h
        obtain rfl := Option.some.inj h
        exact ret1 hF rfl (rv_tmp hF rfl) ⟨_, rfl, A0_0, c0_0, rfl, hS⟩
       ·
        refine wp_block ?_
        refine wp_loop_fuel (I := fun m a W => ∃ (x31 : List TRegion) (x32 : Int) (x33 : Int), FH 61 [(0, .slice A0_0 ((x31).length) c0_0), (3, .int .i64 (x32)), (4, .slice (vw A0_0 c0_0 x3.toNat 25) (x31.length - x3.toNat) (c0_0 - x3.toNat)), (5, .int .i64 (x33))] a ∧ St M w0 (bs) (⟨k_TRegion, 63, A0_0, c0_0, x31⟩ :: rs) (fs) W ∧ (slices_Compact_Region.l1 k x3 m x31 x32 x33) = some o36) ?_ (k := k) ⟨u0, x3, 1, (hF.keep ⟨rfl, rfl, rfl, rfl, trivial⟩), hS, h⟩
        rintro m40 a W ⟨x31, x32, x33, hF, hS, h⟩
        cases m40 with
        | zero => cases h
        | succ m40 =>
         rw [slices_Compact_Region.l1] at h
         refine wp_seq ?_
         refine wp_seq ?_
         refine wp_reg ?_
         refine sq_val (v_move hF rfl) hF (by decide) (fun a hF => ?_)
         refine sq_val (v_move hF rfl) hF (by decide) (fun a hF => ?_)
         refine sq_val (v_len hF rfl pu57) hF (by decide) (fun a hF => ?_)
         refine sq_val (v_lss hF rfl rfl) hF (by decide) (fun a hF => ?_)
         refine sq_nil ?_
         refine then_n ?_
         refine wp_if hF rfl (fun he41 => ?_) (fun he41 => ?_)
         ·
          replace h := ifT he41 h
          refine wp_skip ?_
          refine then_n ?_
          refine wp_seq ?_
          obtain ⟨o44, h, hk45⟩ := bindS h
          refine wp_join (fun a W => ∃ (x42 : List TRegion) (x43 : Int), (x42, x43) = o44 ∧ FH 61 [(0, .slice A0_0 ((x42).length) c0_0), (3, .int .i64 (x43)), (4, .slice (vw A0_0 c0_0 x3.toNat 25) (x42.length - x3.toNat) (c0_0 - x3.toNat)), (5, .int .i64 (x33))] a ∧ St M w0 (bs) (⟨k_TRegion, 63, A0_0, c0_0, x42⟩ :: rs) (fs) W) (fun a W hJ => ?_) ?_
          ·
           obtain ⟨x42, x43, rfl, hF, hS⟩ := hJ
           have h := hk45
           dsimp only at h
           refine then_n ?_
           refine wp_reg ?_
           refine sq_val (v_move hF rfl) hF (by decide) (fun a hF => ?_)
           refine sq_val (v_add hF rfl rfl) hF (by decide) (fun a hF => ?_)
           refine sq_val (v_assign hF rfl) hF (by decide) (fun a hF => ?_)
           refine sq_nil ?_
           exact then_j ⟨m40, Nat.lt_succ_self _, x42, x43, (IntKind.i64.wrap (x33 + 1)), (hF.keep ⟨rfl, rfl, rfl, rfl, trivial⟩), hS, h⟩
          ·
           refine wp_block ?_
           refine wp_seq ?_
           refine wp_quiet rfl (by kernel_rfl) hS ?_
           refine qt_val (fun W hC => (v_move hF rfl)) hF (by decide) (fun a hF => ?_)
           refine qt_val (fun W hC => (v_move hF rfl)) hF (by decide) (fun a hF => ?_)
           obtain ⟨x46, hx47, h⟩ := bindS h
           obtain ⟨p48, cs49, hA50, hc52, hr53⟩ := Row.ok.at (hS.rw_ (i := 0) rfl) (idx_drop hx47)
           obtain rfl : cs49 = TRegion.enc x46 := hr53
           refine qt_val (fun W hC => (v_idxV hF rfl hA50 rfl psl57 hx47 rfl (hS.rw_ (i := 0) rfl).cap)) hF (by decide) (fun a hF => ?_)
           refine qt_val (fun W hC => (v_load (cs := TRegion.enc x46) hF rfl pa63 ps63 (hc52.grow hC.1))) hF (by decide) (fun a hF => ?_)
           refine qt_val (fun W hC => (v_move hF rfl)) hF (by decide) (fun a hF => ?_)
           refine qt_val (fun W hC => (v_move hF rfl)) hF (by decide) (fun a hF => ?_)
           refine qt_val (fun W hC => (v_sub hF rfl rfl)) hF (by decide) (fun a hF => ?_)
           obtain ⟨x54, hx55, h⟩ := bindS h
           obtain ⟨p56, cs57, hA58, hc60, hr61⟩ := Row.ok.at (hS.rw_ (i := 0) rfl) (idx_drop hx55)
           obtain rfl : cs57 = TRegion.enc x54 := hr61
           refine qt_val (fun W hC => (v_idxV hF rfl hA58 rfl psl57 hx55 rfl (hS.rw_ (i := 0) rfl).cap)) hF (by decide) (fun a hF => ?_)
           refine qt_val (fun W hC => (v_load (cs := TRegion.enc x54) hF rfl pa63 ps63 (hc60.grow hC.1))) hF (by decide) (fun a hF => ?_)
           refine qt_val (fun W hC => (eq63 hF rfl rfl).2) hF (by decide) (fun a hF => ?_)
           refine qt_nil ?_
           intro W hC
           have hS := hC.2
           refine then_n ?_
           obtain ⟨o64, h, hk65⟩ := bindS h
           refine wp_join (fun a W => ∃ (x62 : List TRegion) (x63 : Int), (x62, x63) = o64 ∧ FH 61 [(0, .slice A0_0 ((x62).length) c0_0), (3, .int .i64 (x63)), (4, .slice (vw A0_0 c0_0 x3.toNat 25) (x62.length - x3.toNat) (c0_0 - x3.toNat)), (5, .int .i64 (x33))] a ∧ St M w0 (bs) (⟨k_TRegion, 63, A0_0, c0_0, x62⟩ :: rs) (fs) W) (fun a W hJ => ?_) ?_
           ·
            obtain ⟨x62, x63, rfl, hF, hS⟩ := hJ
            have h := hk65
            dsimp only at h
            refine blk_n ?_
            obtain rfl := Option.some.inj h
            exact then_j ⟨x62, x63, rfl, (hF.keep ⟨rfl, rfl, rfl, rfl, trivial⟩), hS⟩
           ·
            refine wp_if hF rfl (fun he66 => ?_) (fun he66 => ?_)
            ·
             replace h := ifT he66 h
             refine wp_seq ?_
             refine wp_reg ?_
             refine sq_val (v_move hF rfl) hF (by decide) (fun a hF => ?_)
             refine sq_val (v_move hF rfl) hF (by decide) (fun a hF => ?_)
             refine sq_val (v_move hF rfl) hF (by decide) (fun a hF => ?_)
             refine sq_val (v_move hF rfl) hF (by decide) (fun a hF => ?_)
             obtain ⟨p67, cs68, hA69, hc71, hr72⟩ := Row.ok.at (hS.rw_ (i := 0) rfl) (idx_drop hx47)
             obtain rfl : cs68 = TRegion.enc x46 := hr72
             refine sq_val (v_idxV hF rfl hA69 rfl psl57 hx47 rfl (hS.rw_ (i := 0) rfl).cap) hF (by decide) (fun a hF => ?_)
             refine sq_val (v_load (cs := TRegion.enc x46) hF rfl pa63 ps63 hc71) hF (by decide) (fun a hF => ?_)
             obtain ⟨x73, hx74, h⟩ := bindS h
             obtain ⟨p75, cs76, hA77, hc79, hr80⟩ := Row.ok.at (hS.rw_ (i := 0) rfl) hx74
             obtain rfl : cs76 = TRegion.enc x73 := hr80
             refine sq_val (v_idx hF rfl hA77 rfl psl57 hx74) hF (by decide) (fun a hF => ?_)
             refine sq_storeEl hF hS (i := 0) rfl hA77 rfl hx74 rfl rfl ps63 rfl (fun W hS => ?_)
             have hF : FH 61 [(0, .slice A0_0 (((x31.set x32.toNat x46)).length) c0_0), (3, .int .i64 (x32)), (4, .slice (vw A0_0 c0_0 x3.toNat 25) ((x31.set x32.toNat x46).length - x3.toNat) (c0_0 - x3.toNat)), (5, .int .i64 (x33)), (29, .int .i64 (x33)), (30, .slice (vw A0_0 c0_0 x3.toNat 25) ((x31.set x32.toNat x46).length - x3.toNat) (c0_0 - x3.toNat)), (31, .int .i64 (((x31.length - x3.toNat : Nat) : Int))), (32, .bool ((decide (x33 < ((x31.length - x3.toNat : Nat) : Int))))), (35, .slice (vw A0_0 c0_0 x3.toNat 25) ((x31.set x32.toNat x46).length - x3.toNat) (c0_0 - x3.toNat)), (36, .int .i64 (x33)), (38, .agg (TRegion.enc x46).toArray), (39, .slice (vw A0_0 c0_0 x3.toNat 25) ((x31.set x32.toNat x46).length - x3.toNat) (c0_0 - x3.toNat)), (40, .int .i64 (x33)), (41, .int .i64 ((IntKind.i64.wrap (x33 - 1)))), (43, .agg (TRegion.enc x54).toArray), (44, .bool ((!(cellsEq (TRegion.enc x46) (TRegion.enc x54))))), (45, .slice A0_0 (((x31.set x32.toNat x46)).length) c0_0), (46, .int .i64 (x32)), (47, .slice (vw A0_0 c0_0 x3.toNat 25) ((x31.set x32.toNat x46).length - x3.toNat) (c0_0 - x3.toNat)), (48, .int .i64 (x33)), (50, .agg (TRegion.enc x46).toArray)] a := (hF.keep ⟨(by simp only [List.length_set] <;> rfl), rfl, (by simp only [List.length_set] <;> rfl), rfl, rfl, (by simp only [List.length_set] <;> rfl), rfl, rfl, (by simp only [List.length_set] <;> rfl), rfl, rfl, (by simp only [List.length_set] <;> rfl), rfl, rfl, rfl, rfl, (by simp only [List.length_set] <;> rfl), rfl, (by simp only [List.length_set] <;> rfl), rfl, rfl, trivial⟩)
             refine sq_nil ?_
             refine then_n ?_
             refine wp_reg ?_
             refine sq_val (v_move hF rfl) hF (by decide) (fun a hF => ?_)
             refine sq_val (v_add hF rfl rfl) hF (by decide) (fun a hF => ?_)
             refine sq_val (v_assign hF rfl) hF (by decide) (fun a hF => ?_)
             refine sq_nil ?_
             obtain rfl := Option.some.inj h
             exact then_j ⟨(x31.set x32.toNat x46), (IntKind.i64.wrap (x32 + 1)), rfl, (hF.keep ⟨rfl, rfl, rfl, rfl, trivial⟩), hS⟩
            ·
             replace h := ifF he66 h
             refine wp_skip ?_
             obtain rfl := Option.some.inj h
             exact then_j ⟨x31, x32, rfl, (hF.keep ⟨rfl, rfl, rfl, rfl, trivial⟩), hS⟩
         ·
          replace h := ifF he41 h
          refine wp_exit ?_
          refine then_x ?_
          refine then_x ?_
          refine blk_hit ?_
          obtain rfl := Option.some.inj h
          exact then_j ⟨x31, x32, rfl, (hF.keep ⟨rfl, rfl, trivial⟩), hS⟩
      ·
       replace h := ifF he24 h
       refine wp_skip ?_
       refine blk_n ?_
       refine then_n ?_
       refine wp_reg ?_
       refine sq_val (v_move hF rfl) hF (by decide) (fun a hF => ?_)
       refine sq_val (v_add hF rfl rfl) hF (by decide) (fun a hF => ?_)
       refine sq_val (v_assign hF rfl) hF (by decide) (fun a hF => ?_)
       refine sq_nil ?_
       exact then_j ⟨m6, Nat.lt_succ_self _, (IntKind.i64.wrap (x3 + 1)), (hF.keep ⟨rfl, rfl, trivial⟩), hS, h⟩
     ·
      replace h := ifF he7 h
      refine wp_exit ?_
      refine then_x ?_
      refine then_x ?_
      refine blk_hit ?_
      obtain rfl := Option.some.inj h
      exact then_j ⟨rfl, (hF.keep ⟨rfl, trivial⟩), hS⟩

theorem ok_cube_both (k : Nat) {M : Nat → Prop} {w0 : World} {u0 : TCube} {u1 : TCube} {o : Bool} (hS : St M w0 [] [] [] w0) (h : cube_both k u0 u1 = some o) :
    Calls Try.prog 54 #[.agg (TCube.enc u0).toArray, .agg (TCube.enc u1).toArray] w0 fun e W' => ∃ v, e = .returned v ∧ (v = .bool (o) ∧ St M w0 [] [] [] W') := by
  unfold cube_both at h
  refine calls_start (args := [.agg (TCube.enc u0).toArray, .agg (TCube.enc u1).toArray]) Try.func54 rfl rfl (Nat.le_of_ble_eq_true rfl) (fun a hF => ?_)
  refine wp_seq ?_
  refine wp_reg ?_
  refine sq_box hF hS rfl rfl (by decide) (fun b1 a W hF hS => ?_)
  refine sq_box hF hS rfl rfl (by decide) (fun b2 a W hF hS => ?_)
  refine sq_val (v_assign hF rfl) hF (by decide) (fun a hF => ?_)
  refine sq_nil ?_
  refine then_n ?_
  refine wp_seq ?_
  refine wp_reg ?_
  refine sq_val (v_load (cs := TCube.enc u0) hF rfl pa26 ps26 (hS.bc (i := 1) rfl)) hF (by decide) (fun a hF => ?_)
  obtain ⟨x3, hx4, h⟩ := bindS h
  refine sq_call hF pc58 rfl (by decide) (ok_cube_Sound k (hS.enter trivial) hx4) (fun v W hR a hF => ?_)
  obtain ⟨rfl, hT5⟩ := hR
  have hS := hS.grow hT5.below
  refine sq_val (v_move hF rfl) hF (by decide) (fun a hF => ?_)
  obtain ⟨x7, h, hk9⟩ := bindS h
  refine sq_cut 3 (fun a W => FH 11 [(10, .bool x7)] a ∧ St M w0 [⟨b2, TCube.enc u1, 26⟩, ⟨b1, TCube.enc u0, 26⟩] [] [] W) (fun a W hJ => ?_) ?_
  ·
   have h := hk9
   obtain ⟨hF, hS⟩ := hJ
   refine sq_val (v_assign hF rfl) hF (by decide) (fun a hF => ?_)
   refine sq_nil ?_
   refine then_n ?_
   refine wp_ret ?_
   obtain rfl := Option.some.inj h
   exact ret1 hF rfl (rv_tmp hF rfl) ⟨_, rfl, rfl, (hS.keep (List.nil_sublist _) (List.Sublist.refl _) trivial)⟩
  ·
   by_cases he6 : x3 = true
   ·
    replace h := ifT he6 h
    refine sq_yes hF rfl rfl he6 ?_
    refine sq_val (v_load (cs := TCube.enc u1) hF rfl pa26 ps26 (hS.bc (i := 0) rfl)) hF (by decide) (fun a hF => ?_)
    refine sq_yes hF rfl rfl he6 ?_
    obtain ⟨x10, hx11, h⟩ := bindS h
    refine sq_call hF pc58 rfl (by decide) (ok_cube_Sound k (hS.enter trivial) hx11) (fun v W hR a hF => ?_)
    obtain ⟨rfl, hT12⟩ := hR
    have hS := hS.grow hT12.below
    refine sq_val (v_pick_t hF rfl he6 rfl) hF (by decide) (fun a hF => ?_)
    obtain rfl := Option.some.inj h
    exact sq_nil (then_j ⟨(hF.keep ⟨rfl, trivial⟩), hS⟩)
   ·
    have he6 : x3 = false := nB he6
    replace h := ifF he6 h
    refine sq_no hF rfl rfl he6 (by rintro x ⟨⟩; decide) (fun a hF => ?_)
    refine sq_no hF rfl rfl he6 (by rintro x ⟨⟩; decide) (fun a hF => ?_)
    refine sq_val (v_pick_f hF rfl he6 rfl) hF (by decide) (fun a hF => ?_)
    obtain rfl := Option.some.inj h
    exact sq_nil (then_j ⟨(hF.keep ⟨rfl, trivial⟩), hS⟩)

theorem ok_cube_Meet (k : Nat) {M : Nat → Prop} {w0 : World} {u0 : TCube} {u1 : TCube} {o : TCube × Bool} (hS : St M w0 [] [] [] w0) (h : cube_Meet k u0 u1 = some o) :
    Calls Try.prog 12 #[.agg (TCube.enc u0).toArray, .agg (TCube.enc u1).toArray] w0 fun e W' => ∃ v, e = .returned v ∧ (v = .tuple #[.agg (TCube.enc o.1).toArray, .bool (o.2)] ∧ St M w0 [] [] [] W') := by
  unfold cube_Meet at h
  refine calls_start (args := [.agg (TCube.enc u0).toArray, .agg (TCube.enc u1).toArray]) Try.func12 rfl rfl (Nat.le_of_ble_eq_true rfl) (fun a hF => ?_)
  refine wp_seq ?_
  refine wp_reg ?_
  refine sq_box hF hS rfl rfl (by decide) (fun b1 a W hF hS => ?_)
  refine sq_box hF hS rfl rfl (by decide) (fun b2 a W hF hS => ?_)
  refine sq_alloc hF hS pz26 rfl (by decide) (fun b3 a W hF hS => ?_)
  refine sq_val (v_assign hF rfl) hF (by decide) (fun a hF => ?_)
  refine sq_nil ?_
  refine then_n ?_
  refine wp_seq ?_
  refine wp_seq ?_
  refine wp_reg ?_
  refine sq_val (v_load (cs := TCube.enc u0) hF rfl pa26 ps26 (hS.bc (i := 2) rfl)) hF (by decide) (fun a hF => ?_)
  refine sq_val (v_load (cs := TCube.enc u1) hF rfl pa26 ps26 (hS.bc (i := 1) rfl)) hF (by decide) (fun a hF => ?_)
  obtain ⟨x4, hx5, h⟩ := bindS h
  refine sq_call hF pc54 rfl (by decide) (ok_cube_both k (hS.enter trivial) hx5) (fun v W hR a hF => ?_)
  obtain ⟨rfl, hT6⟩ := hR
  have hS := hS.grow hT6.below
  refine sq_val (v_not hF rfl) hF (by decide) (fun a hF => ?_)
  refine sq_nil ?_
  refine then_n ?_
  refine wp_if hF rfl (fun he7 => ?_) (fun he7 => ?_)
  ·
   replace h := ifT he7 h
   refine wp_seq ?_
   refine wp_reg ?_
   refine sq_val (v_build (parts := []) (out := TCube.enc TCube.zero) hF rfl rfl pz26 rfl pp26 rfl) hF (by decide) (fun a hF => ?_)
   refine sq_store (o := 0) (vs := TCube.enc TCube.zero) (cs' := TCube.enc TCube.zero) hF hS rfl rfl (i := 0) rfl rfl rfl ps26 (TCube.enc_one _) (Nat.le_of_ble_eq_true rfl) rfl (fun W hS => ?_)
   refine sq_val (v_assign hF rfl) hF (by decide) (fun a hF => ?_)
   refine sq_nil ?_
   refine then_n ?_
   refine wp_ret ?_
   refine then_r ?_
   obtain rfl := Option.some.inj h
   exact ret2 hF rfl (rv_cell (cs := TCube.enc TCube.zero) hF rfl pa26 ps26 (hS.bc (i := 0) rfl)) (rv_tmp hF rfl) ⟨_, rfl, rfl, (hS.keep (List.nil_sublist _) (List.Sublist.refl _) trivial)⟩
  ·
   replace h := ifF he7 h
   refine wp_skip ?_
   refine then_n ?_
   refine wp_seq ?_
   refine wp_seq ?_
   refine wp_reg ?_
   refine sq_val (v_move hF rfl) hF (by decide) (fun a hF => ?_)
   refine sq_nil ?_
   refine then_n ?_
   obtain ⟨o14, h, hk15⟩ := bindS h
   refine wp_join (fun a W => ∃ (x13 : TCube), Lo.brk x13 = o14 ∧ FH 60 [(2, .pointer (some (⟨b1, 0, none⟩))), (4, .pointer (some (⟨b3, 0, none⟩)))] a ∧ St M w0 [⟨b3, TCube.enc TCube.zero, 26⟩, ⟨b1, TCube.enc x13, 26⟩] [] [] W) (fun a W hJ => ?_) ?_
   ·
    obtain ⟨x13, rfl, hF, hS⟩ := hJ
    have h := hk15
    dsimp only at h
    refine then_n ?_
    refine wp_seq ?_
    refine wp_reg ?_
    refine sq_val (v_load (cs := TCube.enc x13) hF rfl pa26 ps26 (hS.bc (i := 1) rfl)) hF (by decide) (fun a hF => ?_)
    refine sq_store (o := 0) (vs := TCube.enc x13) (cs' := TCube.enc x13) hF hS rfl rfl (i := 0) rfl rfl rfl ps26 (TCube.enc_one _) (Nat.le_of_ble_eq_true rfl) rfl (fun W hS => ?_)
    refine sq_val (v_assign hF rfl) hF (by decide) (fun a hF => ?_)
    refine sq_nil ?_
    refine then_n ?_
    refine wp_ret ?_
    obtain rfl := Option.some.inj h
    exact ret2 hF rfl (rv_cell (cs := TCube.enc x13) hF rfl pa26 ps26 (hS.bc (i := 0) rfl)) (rv_tmp hF rfl) ⟨_, rfl, rfl, (hS.keep (List.nil_sublist _) (List.Sublist.refl _) trivial)⟩
   ·
    refine wp_block ?_
    refine wp_loop_fuel (I := fun m a W => ∃ (x11 : TCube) (x12 : Int), FH 60 [(2, .pointer (some (⟨b1, 0, none⟩))), (3, .pointer (some (⟨b2, 0, none⟩))), (4, .pointer (some (⟨b3, 0, none⟩))), (12, .int .i64 (x12))] a ∧ St M w0 [⟨b3, TCube.enc TCube.zero, 26⟩, ⟨b2, TCube.enc u1, 26⟩, ⟨b1, TCube.enc x11, 26⟩] [] [] W ∧ (cube_Meet.l0 k u1 m x11 x12) = some o14) ?_ (k := k) ⟨u0, 0, (hF.keep ⟨rfl, rfl, rfl, rfl, trivial⟩), hS, h⟩
    rintro m16 a W ⟨x11, x12, hF, hS, h⟩
    cases m16 with
    | zero => cases h
    | succ m16 =>
     rw [cube_Meet.l0] at h
     refine wp_seq ?_
     refine wp_reg ?_
     refine sq_val (v_lss hF rfl rfl) hF (by decide) (fun a hF => ?_)
     refine sq_nil ?_
     refine then_n ?_
     refine wp_seq ?_
     refine wp_if hF rfl (fun he17 => ?_) (fun he17 => ?_)
     ·
      replace h := ifT he17 h
      refine wp_skip ?_
      refine then_n ?_
      refine wp_seq ?_
      refine wp_block ?_
      refine wp_seq ?_
      refine wp_reg ?_
      refine sq_val (v_move hF rfl) hF (by decide) (fun a hF => ?_)
      refine sq_val (v_assign hF rfl) hF (by decide) (fun a hF => ?_)
      refine sq_nil ?_
      refine then_n ?_
      refine wp_seq ?_
      refine wp_seq ?_
      refine wp_quiet rfl (by kernel_rfl) hS ?_
      refine qt_val (fun W hC => (v_move hF rfl)) hF (by decide) (fun a hF => ?_)
      refine qt_val (fun W hC => (v_fieldAddr hF rfl pf26_0)) hF (by decide) (fun a hF => ?_)
      obtain ⟨hb18, h⟩ := ifS h
      refine qt_val (fun W hC => (v_indexAddr hF rfl rfl par24 hb18.1 hb18.2)) hF (by decide) (fun a hF => ?_)
      refine qt_val (fun W hC => (v_load1 hF rfl pa22 (cells_sub (vs := [.int .u64 ((x11.Value.at x12))]) (hC.2.bc (i := 2) rfl) (add_add _ _ _) (TCube.get_Value x11 x12 hb18.1 hb18.2)))) hF (by decide) (fun a hF => ?_)
      refine qt_val (fun W hC => (v_move hF rfl)) hF (by decide) (fun a hF => ?_)
      refine qt_val (fun W hC => (v_fieldAddr hF rfl pf26_0)) hF (by decide) (fun a hF => ?_)
      refine qt_val (fun W hC => (v_indexAddr hF rfl rfl par24 hb18.1 hb18.2)) hF (by decide) (fun a hF => ?_)
      refine qt_val (fun W hC => (v_load1 hF rfl pa22 (cells_sub (vs := [.int .u64 ((u1.Value.at x12))]) (hC.2.bc (i := 1) rfl) (add_add _ _ _) (TCube.get_Value u1 x12 hb18.1 hb18.2)))) hF (by decide) (fun a hF => ?_)
      refine qt_val (fun W hC => (v_xor hF rfl rfl)) hF (by decide) (fun a hF => ?_)
      refine qt_val (fun W hC => (v_move hF rfl)) hF (by decide) (fun a hF => ?_)
      refine qt_val (fun W hC => (v_fieldAddr hF rfl pf26_1)) hF (by decide) (fun a hF => ?_)
      refine qt_val (fun W hC => (v_indexAddr hF rfl rfl par24 hb18.1 hb18.2)) hF (by decide) (fun a hF => ?_)
      refine qt_val (fun W hC => (v_load1 hF rfl pa22 (cells_sub (vs := [.int .u64 ((x11.Care.at x12))]) (hC.2.bc (i := 2) rfl) (add_add _ _ _) (TCube.get_Care x11 x12 hb18.1 hb18.2)))) hF (by decide) (fun a hF => ?_)
      refine qt_val (fun W hC => (v_and hF rfl rfl)) hF (by decide) (fun a hF => ?_)
      refine qt_val (fun W hC => (v_move hF rfl)) hF (by decide) (fun a hF => ?_)
      refine qt_val (fun W hC => (v_fieldAddr hF rfl pf26_1)) hF (by decide) (fun a hF => ?_)
      refine qt_val (fun W hC => (v_indexAddr hF rfl rfl par24 hb18.1 hb18.2)) hF (by decide) (fun a hF => ?_)
      refine qt_val (fun W hC => (v_load1 hF rfl pa22 (cells_sub (vs := [.int .u64 ((u1.Care.at x12))]) (hC.2.bc (i := 1) rfl) (add_add _ _ _) (TCube.get_Care u1 x12 hb18.1 hb18.2)))) hF (by decide) (fun a hF => ?_)
      refine qt_val (fun W hC => (v_and hF rfl rfl)) hF (by decide) (fun a hF => ?_)
      refine qt_val (fun W hC => (v_neq hF rfl rfl)) hF (by decide) (fun a hF => ?_)
      refine qt_nil ?_
      intro W hC
      have hS := hC.2
      refine then_n ?_
      refine wp_if hF rfl (fun he19 => ?_) (fun he19 => ?_)
      ·
       replace h := ifT he19 h
       refine wp_seq ?_
       refine wp_reg ?_
       refine sq_val (v_build (parts := []) (out := TCube.enc TCube.zero) hF rfl rfl pz26 rfl pp26 rfl) hF (by decide) (fun a hF => ?_)
       refine sq_store (o := 0) (vs := TCube.enc TCube.zero) (cs' := TCube.enc TCube.zero) hF hS rfl rfl (i := 0) rfl rfl rfl ps26 (TCube.enc_one _) (Nat.le_of_ble_eq_true rfl) rfl (fun W hS => ?_)
       refine sq_val (v_assign hF rfl) hF (by decide) (fun a hF => ?_)
       refine sq_nil ?_
       refine then_n ?_
       refine wp_ret ?_
       refine then_r ?_
       refine blk_r ?_
       refine then_r ?_
       refine then_r ?_
       refine blk_r ?_
       refine then_r ?_
       refine then_r ?_
       obtain rfl := Option.some.inj h
       have h := hk15
       dsimp only at h
       obtain rfl := Option.some.inj h
       exact ret2 hF rfl (rv_cell (cs := TCube.enc TCube.zero) hF rfl pa26 ps26 (hS.bc (i := 0) rfl)) (rv_tmp hF rfl) ⟨_, rfl, rfl, (hS.keep (List.nil_sublist _) (List.Sublist.refl _) trivial)⟩
      ·
       replace h := ifF he19 h
       refine wp_skip ?_
       refine then_n ?_
       refine wp_seq ?_
       refine wp_drawn (QC M w0 [⟨b3, TCube.enc TCube.zero, 26⟩, ⟨b2, TCube.enc u1, 26⟩, ⟨b1, TCube.enc x11, 26⟩] [] []) (fun q => Nat.beq q 11) rfl hS (fun W hB0 hR0 => ?_)
       have hS := hR0
       have hQC : (QC M w0 [⟨b3, TCube.enc TCube.zero, 26⟩, ⟨b2, TCube.enc u1, 26⟩, ⟨b1, TCube.enc x11, 26⟩] [] []) W W := ⟨Bl.refl _ _, hS⟩
       refine e_val (listed' := #[true, false, false, false, false, false, false, false, false, false, false, false]) 0 rfl (by kernel_rfl) (by kernel_rfl) (fun _ _ _ h => h) (fun W => (v_move hF rfl)) hF (by decide) (fun a hF => ?_)
       refine e_val (listed' := #[true, true, false, false, false, false, false, false, false, false, false, false]) 1 rfl (by kernel_rfl) (by kernel_rfl) (fun _ _ _ h => h) (fun W => (v_fieldAddr hF rfl pf26_1)) hF (by decide) (fun a hF => ?_)
       refine e_val (listed' := #[true, true, true, false, false, false, false, false, false, false, false, false]) 2 rfl (by kernel_rfl) (by kernel_rfl) (fun _ _ _ h => h) (fun W => (v_indexAddr hF rfl rfl par24 hb18.1 hb18.2)) hF (by decide) (fun a hF => ?_)
       refine e_valS (listed' := #[true, true, true, true, false, false, false, false, false, false, false, false]) 3 rfl (by kernel_rfl) (by kernel_rfl) (fun _ _ _ h => h) (fun W hC => (v_load1 hF rfl pa22 (cells_sub (vs := [.int .u64 ((x11.Care.at x12))]) (hC.2.bc (i := 2) rfl) (add_add _ _ _) (TCube.get_Care x11 x12 hb18.1 hb18.2)))) hQC (by kernel_rfl) hF (by decide) (fun a hF => ?_)
       refine e_val (listed' := #[true, true, true, true, true, false, false, false, false, false, false, false]) 4 rfl (by kernel_rfl) (by kernel_rfl) (fun _ _ _ h => h) (fun W => (v_move hF rfl)) hF (by decide) (fun a hF => ?_)
       refine e_val (listed' := #[true, true, true, true, true, true, false, false, false, false, false, false]) 5 rfl (by kernel_rfl) (by kernel_rfl) (fun _ _ _ h => h) (fun W => (v_fieldAddr hF rfl pf26_1)) hF (by decide) (fun a hF => ?_)
       refine e_val (listed' := #[true, true, true, true, true, true, true, false, false, false, false, false]) 6 rfl (by kernel_rfl) (by kernel_rfl) (fun _ _ _ h => h) (fun W => (v_indexAddr hF rfl rfl par24 hb18.1 hb18.2)) hF (by decide) (fun a hF => ?_)
       refine e_valS (listed' := #[true, true, true, true, true, true, true, true, false, false, false, false]) 7 rfl (by kernel_rfl) (by kernel_rfl) (fun _ _ _ h => h) (fun W hC => (v_load1 hF rfl pa22 (cells_sub (vs := [.int .u64 ((u1.Care.at x12))]) (hC.2.bc (i := 1) rfl) (add_add _ _ _) (TCube.get_Care u1 x12 hb18.1 hb18.2)))) hQC (by kernel_rfl) hF (by decide) (fun a hF => ?_)
       refine e_val (listed' := #[true, true, true, true, true, true, true, true, true, false, false, false]) 8 rfl (by kernel_rfl) (by kernel_rfl) (fun _ _ _ h => h) (fun W => (v_or hF rfl rfl)) hF (by decide) (fun a hF => ?_)
       refine e_val (listed' := #[true, true, true, true, true, true, true, true, true, true, false, false]) 9 rfl (by kernel_rfl) (by kernel_rfl) (fun _ _ _ h => h) (fun W => (v_fieldAddr hF rfl pf26_1)) hF (by decide) (fun a hF => ?_)
       refine e_val (listed' := #[true, true, true, true, true, true, true, true, true, true, true, false]) 10 rfl (by kernel_rfl) (by kernel_rfl) (fun _ _ _ h => h) (fun W => (v_indexAddr hF rfl rfl par24 hb18.1 hb18.2)) hF (by decide) (fun a hF => ?_)
       refine e_one (listed' := #[true, true, true, true, true, true, true, true, true, true, true, true]) 11 rfl (by kernel_rfl) (by kernel_rfl) ?_
       refine sq_store (o := 12 + x12.toNat * 1) (vs := [.int .u64 ((bOr .u64 (x11.Care.at x12) (u1.Care.at x12)))]) (cs' := TCube.enc (TCube.setCare x11 (x11.Care.upd x12 (bOr .u64 (x11.Care.at x12) (u1.Care.at x12))))) hF hS rfl (by simp only [add_add, add_plain, Nat.zero_add]) (i := 2) rfl rfl rfl ps22 (one1 rfl) (by have h0 := hb18.1; have h1 := hb18.2; simp only [TCube.enc, List.length_cons, List.length_nil]; omega) (TCube.set_Care x11 x12 _ hb18.1 hb18.2) (fun W hS => ?_)
       refine sq_nil (then_j ⟨?_, ?_⟩)
       · exact fun _ hE => absurd hE (by decide)
       ·
        refine e_done (by kernel_rfl) ?_ _
        refine then_n ?_
        refine wp_drawn (QC M w0 [⟨b3, TCube.enc TCube.zero, 26⟩, ⟨b2, TCube.enc u1, 26⟩, ⟨b1, TCube.enc (TCube.setCare x11 (x11.Care.upd x12 (bOr .u64 (x11.Care.at x12) (u1.Care.at x12)))), 26⟩] [] []) (fun q => Nat.beq q 11) rfl hS (fun W hB0 hR0 => ?_)
        have hS := hR0
        have hQC : (QC M w0 [⟨b3, TCube.enc TCube.zero, 26⟩, ⟨b2, TCube.enc u1, 26⟩, ⟨b1, TCube.enc (TCube.setCare x11 (x11.Care.upd x12 (bOr .u64 (x11.Care.at x12) (u1.Care.at x12)))), 26⟩] [] []) W W := ⟨Bl.refl _ _, hS⟩
        refine e_val (listed' := #[true, false, false, false, false, false, false, false, false, false, false, false]) 0 rfl (by kernel_rfl) (by kernel_rfl) (fun _ _ _ h => h) (fun W => (v_move hF rfl)) hF (by decide) (fun a hF => ?_)
        refine e_val (listed' := #[true, true, false, false, false, false, false, false, false, false, false, false]) 1 rfl (by kernel_rfl) (by kernel_rfl) (fun _ _ _ h => h) (fun W => (v_fieldAddr hF rfl pf26_0)) hF (by decide) (fun a hF => ?_)
        refine e_val (listed' := #[true, true, true, false, false, false, false, false, false, false, false, false]) 2 rfl (by kernel_rfl) (by kernel_rfl) (fun _ _ _ h => h) (fun W => (v_indexAddr hF rfl rfl par24 hb18.1 hb18.2)) hF (by decide) (fun a hF => ?_)
        refine e_valS (listed' := #[true, true, true, true, false, false, false, false, false, false, false, false]) 3 rfl (by kernel_rfl) (by kernel_rfl) (fun _ _ _ h => h) (fun W hC => (v_load1 hF rfl pa22 (cells_sub (vs := [.int .u64 ((x11.Value.at x12))]) (hC.2.bc (i := 2) rfl) (add_add _ _ _) (TCube.get_Value (TCube.setCare x11 (x11.Care.upd x12 (bOr .u64 (x11.Care.at x12) (u1.Care.at x12)))) x12 hb18.1 hb18.2)))) hQC (by kernel_rfl) hF (by decide) (fun a hF => ?_)
        refine e_val (listed' := #[true, true, true, true, true, false, false, false, false, false, false, false]) 4 rfl (by kernel_rfl) (by kernel_rfl) (fun _ _ _ h => h) (fun W => (v_move hF rfl)) hF (by decide) (fun a hF => ?_)
        refine e_val (listed' := #[true, true, true, true, true, true, false, false, false, false, false, false]) 5 rfl (by kernel_rfl) (by kernel_rfl) (fun _ _ _ h => h) (fun W => (v_fieldAddr hF rfl pf26_0)) hF (by decide) (fun a hF => ?_)
        refine e_val (listed' := #[true, true, true, true, true, true, true, false, false, false, false, false]) 6 rfl (by kernel_rfl) (by kernel_rfl) (fun _ _ _ h => h) (fun W => (v_indexAddr hF rfl rfl par24 hb18.1 hb18.2)) hF (by decide) (fun a hF => ?_)
        refine e_valS (listed' := #[true, true, true, true, true, true, true, true, false, false, false, false]) 7 rfl (by kernel_rfl) (by kernel_rfl) (fun _ _ _ h => h) (fun W hC => (v_load1 hF rfl pa22 (cells_sub (vs := [.int .u64 ((u1.Value.at x12))]) (hC.2.bc (i := 1) rfl) (add_add _ _ _) (TCube.get_Value u1 x12 hb18.1 hb18.2)))) hQC (by kernel_rfl) hF (by decide) (fun a hF => ?_)
        refine e_val (listed' := #[true, true, true, true, true, true, true, true, true, false, false, false]) 8 rfl (by kernel_rfl) (by kernel_rfl) (fun _ _ _ h => h) (fun W => (v_or hF rfl rfl)) hF (by decide) (fun a hF => ?_)
        refine e_val (listed' := #[true, true, true, true, true, true, true, true, true, true, false, false]) 9 rfl (by kernel_rfl) (by kernel_rfl) (fun _ _ _ h => h) (fun W => (v_fieldAddr hF rfl pf26_0)) hF (by decide) (fun a hF => ?_)
        refine e_val (listed' := #[true, true, true, true, true, true, true, true, true, true, true, false]) 10 rfl (by kernel_rfl) (by kernel_rfl) (fun _ _ _ h => h) (fun W => (v_indexAddr hF rfl rfl par24 hb18.1 hb18.2)) hF (by decide) (fun a hF => ?_)
        refine e_one (listed' := #[true, true, true, true, true, true, true, true, true, true, true, true]) 11 rfl (by kernel_rfl) (by kernel_rfl) ?_
        refine sq_store (o := 0 + x12.toNat * 1) (vs := [.int .u64 ((bOr .u64 (x11.Value.at x12) (u1.Value.at x12)))]) (cs' := TCube.enc ({ Value := (x11.Value.upd x12 (bOr .u64 (x11.Value.at x12) (u1.Value.at x12))), Care := (x11.Care.upd x12 (bOr .u64 (x11.Care.at x12) (u1.Care.at x12))) } : TCube)) hF hS rfl (by simp only [add_add, add_plain, Nat.zero_add]) (i := 2) rfl rfl rfl ps22 (one1 rfl) (by have h0 := hb18.1; have h1 := hb18.2; simp only [TCube.enc, List.length_cons, List.length_nil]; omega) (TCube.set_Value (TCube.setCare x11 (x11.Care.upd x12 (bOr .u64 (x11.Care.at x12) (u1.Care.at x12)))) x12 _ hb18.1 hb18.2) (fun W hS => ?_)
        refine sq_nil (then_j ⟨?_, ?_⟩)
        · exact fun _ hE => absurd hE (by decide)
        ·
         refine e_done (by kernel_rfl) ?_ _
         refine blk_n ?_
         refine then_n ?_
         refine wp_reg ?_
         refine sq_val (v_add hF rfl rfl) hF (by decide) (fun a hF => ?_)
         refine sq_val (v_move hF rfl) hF (by decide) (fun a hF => ?_)
         refine sq_nil ?_
         exact then_j ⟨m16, Nat.lt_succ_self _, ({ Value := (x11.Value.upd x12 (bOr .u64 (x11.Value.at x12) (u1.Value.at x12))), Care := (x11.Care.upd x12 (bOr .u64 (x11.Care.at x12) (u1.Care.at x12))) } : TCube), (IntKind.i64.wrap (x12 + 1)), (hF.keep ⟨rfl, rfl, rfl, rfl, trivial⟩), hS, h⟩
     ·
      replace h := ifF he17 h
      refine wp_exit ?_
      refine then_x ?_
      refine then_x ?_
      refine blk_hit ?_
      obtain rfl := Option.some.inj h
      exact then_j ⟨x11, rfl, (hF.keep ⟨rfl, rfl, trivial⟩), (hS.keep (.cons_cons _ (.cons _ (List.Sublist.refl _))) (List.Sublist.refl _) trivial)⟩

theorem ok_cube_Within (k : Nat) {M : Nat → Prop} {w0 : World} {u0 : TCube} {u1 : TCube} {o : Bool} (hS : St M w0 [] [] [] w0) (h : cube_Within k u0 u1 = some o) :
    Calls Try.prog 19 #[.agg (TCube.enc u0).toArray, .agg (TCube.enc u1).toArray] w0 fun e W' => ∃ v, e = .returned v ∧ (v = .bool (o) ∧ St M w0 [] [] [] W') := by
  unfold cube_Within at h
  refine calls_start (args := [.agg (TCube.enc u0).toArray, .agg (TCube.enc u1).toArray]) Try.func19 rfl rfl (Nat.le_of_ble_eq_true rfl) (fun a hF => ?_)
  refine wp_seq ?_
  refine wp_reg ?_
  refine sq_box hF hS rfl rfl (by decide) (fun b1 a W hF hS => ?_)
  refine sq_box hF hS rfl rfl (by decide) (fun b2 a W hF hS => ?_)
  refine sq_val (v_assign hF rfl) hF (by decide) (fun a hF => ?_)
  refine sq_nil ?_
  refine then_n ?_
  refine wp_seq ?_
  refine wp_reg ?_
  refine sq_val (v_load (cs := TCube.enc u0) hF rfl pa26 ps26 (hS.bc (i := 1) rfl)) hF (by decide) (fun a hF => ?_)
  refine sq_val (v_load (cs := TCube.enc u1) hF rfl pa26 ps26 (hS.bc (i := 0) rfl)) hF (by decide) (fun a hF => ?_)
  obtain ⟨x3, hx4, h⟩ := bindS h
  refine sq_call hF pc12 rfl (by decide) (ok_cube_Meet k (hS.enter trivial) hx4) (fun v W hR a hF => ?_)
  obtain ⟨rfl, hT5⟩ := hR
  have hS := hS.grow hT5.below
  refine sq_val (v_move hF rfl) hF (by decide) (fun a hF => ?_)
  refine sq_val (v_extract hF rfl rfl) hF (by decide) (fun a hF => ?_)
  refine sq_val (v_extract hF rfl rfl) hF (by decide) (fun a hF => ?_)
  refine sq_alloc hF hS pz26 rfl (by decide) (fun b6 a W hF hS => ?_)
  refine sq_store (o := 0) (vs := TCube.enc x3.1) (cs' := TCube.enc x3.1) hF hS rfl rfl (i := 0) rfl rfl rfl ps26 (TCube.enc_one _) (Nat.le_of_ble_eq_true rfl) rfl (fun W hS => ?_)
  refine sq_val (v_assign hF rfl) hF (by decide) (fun a hF => ?_)
  refine sq_nil ?_
  refine then_n ?_
  refine wp_seq ?_
  refine wp_reg ?_
  refine sq_val (v_move hF rfl) hF (by decide) (fun a hF => ?_)
  refine sq_val (v_move hF rfl) hF (by decide) (fun a hF => ?_)
  refine sq_cut 4 (fun a W => FH 19 [(18, .bool (x3.2 && (cellsEq (TCube.enc x3.1) (TCube.enc u0))))] a ∧ St M w0 [⟨b6, TCube.enc x3.1, 26⟩, ⟨b2, TCube.enc u1, 26⟩, ⟨b1, TCube.enc u0, 26⟩] [] [] W) (fun a W hJ => ?_) ?_
  ·
   obtain ⟨hF, hS⟩ := hJ
   refine sq_val (v_assign hF rfl) hF (by decide) (fun a hF => ?_)
   refine sq_nil ?_
   refine then_n ?_
   refine wp_ret ?_
   obtain rfl := Option.some.inj h
   exact ret1 hF rfl (rv_tmp hF rfl) ⟨_, rfl, rfl, (hS.keep (List.nil_sublist _) (List.Sublist.refl _) trivial)⟩
  ·
   by_cases he7 : x3.2 = true
   ·
    refine sq_yes hF rfl rfl he7 ?_
    refine sq_val (v_load (cs := TCube.enc x3.1) hF rfl pa26 ps26 (hS.bc (i := 0) rfl)) hF (by decide) (fun a hF => ?_)
    refine sq_yes hF rfl rfl he7 ?_
    refine sq_val (v_load (cs := TCube.enc u0) hF rfl pa26 ps26 (hS.bc (i := 2) rfl)) hF (by decide) (fun a hF => ?_)
    refine sq_yes hF rfl rfl he7 ?_
    refine sq_val (eq26 hF rfl rfl).1 hF (by decide) (fun a hF => ?_)
    refine sq_val (v_pick_t hF rfl he7 rfl) hF (by decide) (fun a hF => ?_)
    exact sq_nil (then_j ⟨(hF.keep ⟨(boolV (and_t he7)), trivial⟩), hS⟩)
   ·
    have he7 : x3.2 = false := nB he7
    refine sq_no hF rfl rfl he7 (by rintro x ⟨⟩; decide) (fun a hF => ?_)
    refine sq_no hF rfl rfl he7 (by rintro x ⟨⟩; decide) (fun a hF => ?_)
    refine sq_no hF rfl rfl he7 (by rintro x ⟨⟩; decide) (fun a hF => ?_)
    refine sq_val (v_pick_f hF rfl he7 rfl) hF (by decide) (fun a hF => ?_)
    exact sq_nil (then_j ⟨(hF.keep ⟨(boolV (and_f he7)), trivial⟩), hS⟩)

theorem ok_region_Of_1 (k : Nat) {M : Nat → Prop} {w0 : World} {u0 : TRegion} {y0 : TRegion} {b0_ : Nat} {o : Bool} (hS : St M w0 [] [] [fBox b0_ (TRegion.enc y0) 63] w0) (h : region_Of_1 k u0 y0 = some o) :
    Calls Try.prog 89 #[.agg (TRegion.enc u0).toArray, .pointer (some (⟨b0_, 0, none⟩))] w0 fun e W' => ∃ v, e = .returned v ∧ (v = .bool (o) ∧ St M w0 [] [] [] W') := by
  unfold region_Of_1 at h
  refine calls_start (args := [.agg (TRegion.enc u0).toArray, .pointer (some (⟨b0_, 0, none⟩))]) Try.func89 rfl rfl (Nat.le_of_ble_eq_true rfl) (fun a hF => ?_)
  refine wp_seq ?_
  refine wp_reg ?_
  refine sq_box hF hS rfl rfl (by decide) (fun b1 a W hF hS => ?_)
  refine sq_val (v_assign hF rfl) hF (by decide) (fun a hF => ?_)
  refine sq_nil ?_
  refine then_n ?_
  refine wp_seq ?_
  refine wp_reg ?_
  refine sq_val (v_load (cs := TRegion.enc u0) hF rfl pa63 ps63 (hS.bc (i := 0) rfl)) hF (by decide) (fun a hF => ?_)
  refine sq_val (v_load (cs := TRegion.enc y0) hF rfl pa63 ps63 (hS.fbc (i := 0) rfl)) hF (by decide) (fun a hF => ?_)
  refine sq_val (eq63 hF rfl rfl).2 hF (by decide) (fun a hF => ?_)
  refine sq_val (v_move hF rfl) hF (by decide) (fun a hF => ?_)
  refine sq_cut 6 (fun a W => FH 21 [(1, .pointer (some (⟨b0_, 0, none⟩))), (2, .pointer (some (⟨b1, 0, none⟩))), (13, .bool ((!(cellsEq (TRegion.enc u0) (TRegion.enc y0))) && (u0.Unit == y0.Unit)))] a ∧ St M w0 [⟨b1, TRegion.enc u0, 63⟩] [] [fBox b0_ (TRegion.enc y0) 63] W) (fun a W hJ => ?_) ?_
  ·
   obtain ⟨hF, hS⟩ := hJ
   refine sq_val (v_move hF rfl) hF (by decide) (fun a hF => ?_)
   obtain ⟨x4, h, hk6⟩ := bindS h
   refine sq_cut 6 (fun a W => FH 21 [(20, .bool x4)] a ∧ St M w0 [⟨b1, TRegion.enc u0, 63⟩] [] [fBox b0_ (TRegion.enc y0) 63] W) (fun a W hJ => ?_) ?_
   ·
    have h := hk6
    obtain ⟨hF, hS⟩ := hJ
    refine sq_val (v_assign hF rfl) hF (by decide) (fun a hF => ?_)
    refine sq_nil ?_
    refine then_n ?_
    refine wp_ret ?_
    obtain rfl := Option.some.inj h
    exact ret1 hF rfl (rv_tmp hF rfl) ⟨_, rfl, rfl, (hS.keep (List.nil_sublist _) (List.Sublist.refl _) trivial)⟩
   ·
    by_cases he3 : ((!(cellsEq (TRegion.enc u0) (TRegion.enc y0))) && (u0.Unit == y0.Unit)) = true
    ·
     replace h := ifT he3 h
     refine sq_yes hF rfl rfl he3 ?_
     refine sq_val (v_fieldAddr hF rfl pf63_1) hF (by decide) (fun a hF => ?_)
     refine sq_yes hF rfl rfl he3 ?_
     refine sq_val (v_load (cs := TCube.enc y0.Cube) hF rfl pa26 ps26 (cells_sub (vs := TCube.enc y0.Cube) (hS.fbc (i := 0) rfl) rfl rfl)) hF (by decide) (fun a hF => ?_)
     refine sq_yes hF rfl rfl he3 ?_
     refine sq_val (v_fieldAddr hF rfl pf63_1) hF (by decide) (fun a hF => ?_)
     refine sq_yes hF rfl rfl he3 ?_
     refine sq_val (v_load (cs := TCube.enc u0.Cube) hF rfl pa26 ps26 (cells_sub (vs := TCube.enc u0.Cube) (hS.bc (i := 0) rfl) rfl rfl)) hF (by decide) (fun a hF => ?_)
     refine sq_yes hF rfl rfl he3 ?_
     obtain ⟨x7, hx8, h⟩ := bindS h
     refine sq_call hF pc19 rfl (by decide) (ok_cube_Within k (hS.enter trivial) hx8) (fun v W hR a hF => ?_)
     obtain ⟨rfl, hT9⟩ := hR
     have hS := hS.grow hT9.below
     refine sq_val (v_pick_t hF rfl he3 rfl) hF (by decide) (fun a hF => ?_)
     obtain rfl := Option.some.inj h
     exact sq_nil (then_j ⟨(hF.keep ⟨rfl, trivial⟩), hS⟩)
    ·
     have he3 : ((!(cellsEq (TRegion.enc u0) (TRegion.enc y0))) && (u0.Unit == y0.Unit)) = false := nB he3
     replace h := ifF he3 h
     refine sq_no hF rfl rfl he3 (by rintro x ⟨⟩; decide) (fun a hF => ?_)
     refine sq_no hF rfl rfl he3 (by rintro x ⟨⟩; decide) (fun a hF => ?_)
     refine sq_no hF rfl rfl he3 (by rintro x ⟨⟩; decide) (fun a hF => ?_)
     refine sq_no hF rfl rfl he3 (by rintro x ⟨⟩; decide) (fun a hF => ?_)
     refine sq_no hF rfl rfl he3 (by rintro x ⟨⟩; decide) (fun a hF => ?_)
     refine sq_val (v_pick_f hF rfl he3 rfl) hF (by decide) (fun a hF => ?_)
     obtain rfl := Option.some.inj h
     exact sq_nil (then_j ⟨(hF.keep ⟨rfl, trivial⟩), hS⟩)
  ·
   by_cases he2 : (!(cellsEq (TRegion.enc u0) (TRegion.enc y0))) = true
   ·
    refine sq_yes hF rfl rfl he2 ?_
    refine sq_val (v_fieldAddr hF rfl pf63_0) hF (by decide) (fun a hF => ?_)
    refine sq_yes hF rfl rfl he2 ?_
    refine sq_val (v_load1 hF rfl pa3 (cells_sub (vs := [.int .i64 (u0.Unit)]) (hS.bc (i := 0) rfl) rfl rfl)) hF (by decide) (fun a hF => ?_)
    refine sq_yes hF rfl rfl he2 ?_
    refine sq_val (v_fieldAddr hF rfl pf63_0) hF (by decide) (fun a hF => ?_)
    refine sq_yes hF rfl rfl he2 ?_
    refine sq_val (v_load1 hF rfl pa3 (cells_sub (vs := [.int .i64 (y0.Unit)]) (hS.fbc (i := 0) rfl) rfl rfl)) hF (by decide) (fun a hF => ?_)
    refine sq_yes hF rfl rfl he2 ?_
    refine sq_val (v_eql hF rfl rfl) hF (by decide) (fun a hF => ?_)
    refine sq_val (v_pick_t hF rfl he2 rfl) hF (by decide) (fun a hF => ?_)
    exact sq_nil (then_j ⟨(hF.keep ⟨rfl, rfl, (boolV (and_t he2)), trivial⟩), hS⟩)
   ·
    have he2 : (!(cellsEq (TRegion.enc u0) (TRegion.enc y0))) = false := nB he2
    refine sq_no hF rfl rfl he2 (by rintro x ⟨⟩; decide) (fun a hF => ?_)
    refine sq_no hF rfl rfl he2 (by rintro x ⟨⟩; decide) (fun a hF => ?_)
    refine sq_no hF rfl rfl he2 (by rintro x ⟨⟩; decide) (fun a hF => ?_)
    refine sq_no hF rfl rfl he2 (by rintro x ⟨⟩; decide) (fun a hF => ?_)
    refine sq_no hF rfl rfl he2 (by rintro x ⟨⟩; decide) (fun a hF => ?_)
    refine sq_val (v_pick_f hF rfl he2 rfl) hF (by decide) (fun a hF => ?_)
    exact sq_nil (then_j ⟨(hF.keep ⟨rfl, rfl, (boolV (and_f he2)), trivial⟩), hS⟩)
end Go.Proofs.Ytangebngeeamoaa
