/- What calls of the Go functions come to. -/
import Derived.Test.YtangebngeeamoaaW3
set_option linter.unusedVariables false
set_option linter.unusedSimpArgs false
set_option maxRecDepth 100000
set_option maxHeartbeats 4000000
namespace Go.Proofs.Ytangebngeeamoaa
open Go.RowKit Go.Pod
theorem ok_cube_Has (k : Nat) {M : Nat → Prop} {w0 : World} {u0 : TCube} {u1 : Arr 12} {o : Bool} (hS : St M w0 [] [] [] w0) (h : cube_Has k u0 u1 = some o) :
    Calls Try.prog 15 #[.agg (TCube.enc u0).toArray, .agg (A12u64.enc u1).toArray] w0 fun e W' => ∃ v, e = .returned v ∧ (v = .bool (o) ∧ St M w0 [] [] [] W') := by
  unfold cube_Has at h
  refine calls_start (args := [.agg (TCube.enc u0).toArray, .agg (A12u64.enc u1).toArray]) Try.func15 rfl rfl (Nat.le_of_ble_eq_true rfl) (fun a hF => ?_)
  refine wp_seq ?_
  refine wp_reg ?_
  refine sq_box hF hS rfl rfl (by decide) (fun b1 a W hF hS => ?_)
  refine sq_box hF hS rfl rfl (by decide) (fun b2 a W hF hS => ?_)
  refine sq_val (v_assign hF rfl) hF (by decide) (fun a hF => ?_)
  refine sq_nil ?_
  refine then_n ?_
  refine wp_seq ?_
  refine wp_seq ?_
  refine wp_reg ?_
  refine sq_val (v_load (cs := A12u64.enc u1) hF rfl pa24 ps24 (hS.bc (i := 0) rfl)) hF (by decide) (fun a hF => ?_)
  refine sq_val (v_move hF rfl) hF (by decide) (fun a hF => ?_)
  refine sq_nil ?_
  refine then_n ?_
  obtain ⟨o5, h, hk6⟩ := bindS h
  refine wp_join (fun a W => Lo.brk () = o5 ∧ FH 30 [(2, .pointer (some (⟨b1, 0, none⟩))), (3, .pointer (some (⟨b2, 0, none⟩)))] a ∧ St M w0 [⟨b2, A12u64.enc u1, 24⟩, ⟨b1, TCube.enc u0, 26⟩] [] [] W) (fun a W hJ => ?_) ?_
  ·
    obtain ⟨rfl, hF, hS⟩ := hJ
    have h := hk6
    dsimp only at h
    refine then_n ?_
    refine wp_seq ?_
    refine wp_reg ?_
    refine sq_val (v_load (cs := TCube.enc u0) hF rfl pa26 ps26 (hS.bc (i := 1) rfl)) hF (by decide) (fun a hF => ?_)
    obtain ⟨x7, hx8, h⟩ := bindS h
    refine sq_call hF pc58 rfl (by decide) (ok_cube_Sound k (hS.enter trivial) hx8) (fun v W hR a hF => ?_)
    obtain ⟨rfl, hT9⟩ := hR
    have hS := hS.grow hT9.below
    refine sq_val (v_move hF rfl) hF (by decide) (fun a hF => ?_)
    obtain ⟨x11, h, hk13⟩ := bindS h
    refine sq_cut 3 (fun a W => FH 30 [(29, .bool x11)] a ∧ St M w0 [⟨b2, A12u64.enc u1, 24⟩, ⟨b1, TCube.enc u0, 26⟩] [] [] W) (fun a W hJ => ?_) ?_
    ·
      have h := hk13
      obtain ⟨hF, hS⟩ := hJ
      refine sq_val (v_assign hF rfl) hF (by decide) (fun a hF => ?_)
      refine sq_nil ?_
      refine then_n ?_
      refine wp_ret ?_
      obtain rfl := Option.some.inj h
      exact ret1 hF rfl (rv_tmp hF rfl) ⟨_, rfl, rfl, (hS.keep (List.nil_sublist _) (List.Sublist.refl _) trivial)⟩
    ·
      by_cases he10 : x7 = true
      ·
        replace h := ifT he10 h
        refine sq_yes hF rfl rfl he10 ?_
        refine sq_val (v_load (cs := A12u64.enc u1) hF rfl pa24 ps24 (hS.bc (i := 0) rfl)) hF (by decide) (fun a hF => ?_)
        refine sq_yes hF rfl rfl he10 ?_
        obtain ⟨x14, hx15, h⟩ := bindS h
        refine sq_call hF pc59 rfl (by decide) (ok_head_Sound k (hS.enter trivial) hx15) (fun v W hR a hF => ?_)
        obtain ⟨rfl, hT16⟩ := hR
        have hS := hS.grow hT16.below
        refine sq_val (v_pick_t hF rfl he10 rfl) hF (by decide) (fun a hF => ?_)
        obtain rfl := Option.some.inj h
        exact sq_nil (then_j ⟨(hF.keep ⟨rfl, trivial⟩), hS⟩)
      ·
        have he10 : x7 = false := nB he10
        replace h := ifF he10 h
        refine sq_no hF rfl rfl he10 (by rintro x ⟨⟩; decide) (fun a hF => ?_)
        refine sq_no hF rfl rfl he10 (by rintro x ⟨⟩; decide) (fun a hF => ?_)
        refine sq_val (v_pick_f hF rfl he10 rfl) hF (by decide) (fun a hF => ?_)
        obtain rfl := Option.some.inj h
        exact sq_nil (then_j ⟨(hF.keep ⟨rfl, trivial⟩), hS⟩)
  ·
    refine wp_block ?_
    refine wp_loop_fuel (I := fun m a W => ∃ (x4 : Int), FH 30 [(2, .pointer (some (⟨b1, 0, none⟩))), (3, .pointer (some (⟨b2, 0, none⟩))), (7, .agg (A12u64.enc u1).toArray), (8, .int .i64 (x4))] a ∧ St M w0 [⟨b2, A12u64.enc u1, 24⟩, ⟨b1, TCube.enc u0, 26⟩] [] [] W ∧ (cube_Has.l0 k u0 u1 m x4) = some o5) ?_ (k := k) ⟨0, (hF.keep ⟨rfl, rfl, rfl, rfl, trivial⟩), hS, h⟩
    rintro m17 a W ⟨x4, hF, hS, h⟩
    cases m17 with
    | zero => cases h
    | succ m17 =>
      rw [cube_Has.l0] at h
      refine wp_seq ?_
      refine wp_reg ?_
      refine sq_val (v_lss hF rfl rfl) hF (by decide) (fun a hF => ?_)
      refine sq_nil ?_
      refine then_n ?_
      refine wp_seq ?_
      refine wp_if hF rfl (fun he18 => ?_) (fun he18 => ?_)
      ·
        replace h := ifT he18 h
        refine wp_skip ?_
        refine then_n ?_
        refine wp_seq ?_
        refine wp_block ?_
        refine wp_seq ?_
        refine wp_reg ?_
        refine sq_val (v_move hF rfl) hF (by decide) (fun a hF => ?_)
        obtain ⟨hb19, h⟩ := ifS h
        refine sq_val (v_index1 hF rfl rfl par24 pa22 hb19.1 hb19.2 (cell1 (A12u64.get u1 x4 hb19.1 hb19.2))) hF (by decide) (fun a hF => ?_)
        refine sq_val (v_assign hF rfl) hF (by decide) (fun a hF => ?_)
        refine sq_val (v_assign hF rfl) hF (by decide) (fun a hF => ?_)
        refine sq_nil ?_
        refine then_n ?_
        refine wp_seq ?_
        refine wp_quiet rfl (by kernel_rfl) hS ?_
        refine qt_val (fun W hC => (v_move hF rfl)) hF (by decide) (fun a hF => ?_)
        refine qt_val (fun W hC => (v_move hF rfl)) hF (by decide) (fun a hF => ?_)
        refine qt_val (fun W hC => (v_fieldAddr hF rfl pf26_1)) hF (by decide) (fun a hF => ?_)
        refine qt_val (fun W hC => (v_indexAddr hF rfl rfl par24 hb19.1 hb19.2)) hF (by decide) (fun a hF => ?_)
        refine qt_val (fun W hC => (v_load1 hF rfl pa22 (cells_sub (vs := [.int .u64 ((u0.Care.at x4))]) (hC.2.bc (i := 1) rfl) (add_add _ _ _) (TCube.get_Care u0 x4 hb19.1 hb19.2)))) hF (by decide) (fun a hF => ?_)
        refine qt_val (fun W hC => (v_and hF rfl rfl)) hF (by decide) (fun a hF => ?_)
        refine qt_val (fun W hC => (v_move hF rfl)) hF (by decide) (fun a hF => ?_)
        refine qt_val (fun W hC => (v_fieldAddr hF rfl pf26_0)) hF (by decide) (fun a hF => ?_)
        refine qt_val (fun W hC => (v_indexAddr hF rfl rfl par24 hb19.1 hb19.2)) hF (by decide) (fun a hF => ?_)
        refine qt_val (fun W hC => (v_load1 hF rfl pa22 (cells_sub (vs := [.int .u64 ((u0.Value.at x4))]) (hC.2.bc (i := 1) rfl) (add_add _ _ _) (TCube.get_Value u0 x4 hb19.1 hb19.2)))) hF (by decide) (fun a hF => ?_)
        refine qt_val (fun W hC => (v_neq hF rfl rfl)) hF (by decide) (fun a hF => ?_)
        refine qt_nil ?_
        intro W hC
        have hS := hC.2
        refine then_n ?_
        refine wp_if hF rfl (fun he20 => ?_) (fun he20 => ?_)
        ·
          replace h := ifT he20 h
          refine wp_seq ?_
          refine wp_reg ?_
          refine sq_val (v_assign hF rfl) hF (by decide) (fun a hF => ?_)
          refine sq_nil ?_
          refine then_n ?_
          refine wp_ret ?_
          refine blk_r ?_
          refine then_r ?_
          refine then_r ?_
          refine blk_r ?_
          refine then_r ?_
          refine then_r ?_
          obtain rfl := Option.some.inj h
          have h := hk6
          dsimp only at h
          obtain rfl := Option.some.inj h
          exact ret1 hF rfl (rv_tmp hF rfl) ⟨_, rfl, rfl, (hS.keep (List.nil_sublist _) (List.Sublist.refl _) trivial)⟩
        ·
          replace h := ifF he20 h
          refine wp_skip ?_
          refine blk_n ?_
          refine then_n ?_
          refine wp_reg ?_
          refine sq_val (v_add hF rfl rfl) hF (by decide) (fun a hF => ?_)
          refine sq_val (v_move hF rfl) hF (by decide) (fun a hF => ?_)
          refine sq_nil ?_
          exact then_j ⟨m17, Nat.lt_succ_self _, (IntKind.i64.wrap (x4 + 1)), (hF.keep ⟨rfl, rfl, rfl, rfl, trivial⟩), hS, h⟩
      ·
        replace h := ifF he18 h
        refine wp_exit ?_
        refine then_x ?_
        refine then_x ?_
        refine blk_hit ?_
        obtain rfl := Option.some.inj h
        exact then_j ⟨rfl, (hF.keep ⟨rfl, rfl, trivial⟩), hS⟩

theorem ok_space_Has_1 (k : Nat) {M : Nat → Prop} {w0 : World} {u0 : TCube} {y0 : Arr 12} {b0_ : Nat} {o : Bool} (hS : St M w0 [] [] [fBox b0_ (A12u64.enc y0) 24] w0) (h : space_Has_1 k u0 y0 = some o) :
    Calls Try.prog 101 #[.agg (TCube.enc u0).toArray, .pointer (some (⟨b0_, 0, none⟩))] w0 fun e W' => ∃ v, e = .returned v ∧ (v = .bool (o) ∧ St M w0 [] [] [] W') := by
  unfold space_Has_1 at h
  refine calls_start (args := [.agg (TCube.enc u0).toArray, .pointer (some (⟨b0_, 0, none⟩))]) Try.func101 rfl rfl (Nat.le_of_ble_eq_true rfl) (fun a hF => ?_)
  refine wp_seq ?_
  refine wp_reg ?_
  refine sq_box hF hS rfl rfl (by decide) (fun b1 a W hF hS => ?_)
  refine sq_val (v_assign hF rfl) hF (by decide) (fun a hF => ?_)
  refine sq_nil ?_
  refine then_n ?_
  refine wp_seq ?_
  refine wp_reg ?_
  refine sq_val (v_load (cs := TCube.enc u0) hF rfl pa26 ps26 (hS.bc (i := 0) rfl)) hF (by decide) (fun a hF => ?_)
  refine sq_val (v_load (cs := A12u64.enc y0) hF rfl pa24 ps24 (hS.fbc (i := 0) rfl)) hF (by decide) (fun a hF => ?_)
  obtain ⟨x2, hx3, h⟩ := bindS h
  refine sq_call hF pc15 rfl (by decide) (ok_cube_Has k (hS.enter trivial) hx3) (fun v W hR a hF => ?_)
  obtain ⟨rfl, hT4⟩ := hR
  have hS := hS.grow hT4.below
  refine sq_val (v_assign hF rfl) hF (by decide) (fun a hF => ?_)
  refine sq_nil ?_
  refine then_n ?_
  refine wp_ret ?_
  obtain rfl := Option.some.inj h
  exact ret1 hF rfl (rv_tmp hF rfl) ⟨_, rfl, rfl, (hS.keep (List.nil_sublist _) (List.Sublist.refl _) trivial)⟩

theorem ok_space_Has (k : Nat) {M : Nat → Prop} {w0 : World} {u0 : List TCube} {A0_0 : Option Addr} {c0_0 : Nat} {u1 : Arr 12} {o : Bool} (hS : St M w0 [] [] [fSl k_TCube A0_0 c0_0 u0] w0) (h : space_Has k u0 u1 = some o) :
    Calls Try.prog 40 #[.slice A0_0 ((u0).length) c0_0, .agg (A12u64.enc u1).toArray] w0 fun e W' => ∃ v, e = .returned v ∧ (v = .bool (o) ∧ St M w0 [] [] [] W') := by
  unfold space_Has at h
  refine calls_start (args := [.slice A0_0 ((u0).length) c0_0, .agg (A12u64.enc u1).toArray]) Try.func40 rfl rfl (Nat.le_of_ble_eq_true rfl) (fun a hF => ?_)
  refine wp_seq ?_
  refine wp_reg ?_
  refine sq_box hF hS rfl rfl (by decide) (fun b1 a W hF hS => ?_)
  refine sq_val (v_assign hF rfl) hF (by decide) (fun a hF => ?_)
  refine sq_nil ?_
  refine then_n ?_
  refine wp_seq ?_
  refine wp_reg ?_
  refine sq_val (v_move hF rfl) hF (by decide) (fun a hF => ?_)
  have hS := hS.freezeBox (i := 0) rfl
  have hS := hS.addFact (f := fFn1 Try.prog 101 ([.pointer (some (⟨b1, 0, none⟩))]) k_TCube true (fun (a0 : TCube) => space_Has_1 k a0 u1) (fun y => .bool y)) ⟨pc101, fun M' W' hs hv cs a0 y hR hp => by obtain rfl := hR; exact fromSt (ok_space_Has_1 k (St.ofAll hv ⟨((fBox b1 (A12u64.enc u1) 24).st (hS.fc (i := 0) rfl) hs), trivial⟩) hp)⟩
  refine sq_val (v_makeFunc (xs := [.tmp 3]) (vs := [.pointer (some (⟨b1, 0, none⟩))]) hF rfl) hF (by decide) (fun a hF => ?_)
  obtain ⟨x2, hx3, h⟩ := bindS h
  refine sq_call hF pc99 rfl (by decide) (ok_slices_ContainsFunc_Cube k (hS.enter ⟨⟨2, rfl⟩, ⟨0, rfl⟩, trivial⟩) hx3) (fun v W hR a hF => ?_)
  obtain ⟨rfl, hT4⟩ := hR
  have hS := hS.grow hT4.below
  refine sq_val (v_assign hF rfl) hF (by decide) (fun a hF => ?_)
  refine sq_nil ?_
  refine then_n ?_
  refine wp_ret ?_
  obtain rfl := Option.some.inj h
  exact ret1 hF rfl (rv_tmp hF rfl) ⟨_, rfl, rfl, (hS.keep (List.Sublist.refl _) (List.Sublist.refl _) trivial)⟩

theorem ok_law03_answers (k : Nat) {M : Nat → Prop} {w0 : World}  {o : Bool} (hS : St M w0 [] [] [] w0) (h : law03_answers k = some o) :
    Calls Try.prog 36 #[] w0 fun e W' => ∃ v, e = .returned v ∧ (v = .bool (o) ∧ St M w0 [] [] [] W') := by
  unfold law03_answers at h
  refine calls_start (args := []) Try.func36 rfl rfl (Nat.le_of_ble_eq_true rfl) (fun a hF => ?_)
  refine wp_seq ?_
  refine wp_reg ?_
  refine sq_val (v_assign hF rfl) hF (by decide) (fun a hF => ?_)
  refine sq_nil ?_
  refine then_n ?_
  refine wp_seq ?_
  refine wp_reg ?_
  refine sq_val (v_build (parts := []) (out := TCube.enc TCube.zero) hF rfl rfl pz26 rfl pp26 rfl) hF (by decide) (fun a hF => ?_)
  refine sq_buildSlice (κ := k_TCube) (xs := [.tmp 4]) (ys := [TCube.zero]) hF hS rfl rfl rfl (Els.cons rfl (Els.nil _ _ _)) rfl psl29 pz26 rfl (by decide) (by decide) (by decide) (fun A1 c2 a W hF hS => ?_)
  refine sq_val (v_build (parts := []) (out := TCube.enc TCube.zero) hF rfl rfl pz26 rfl pp26 rfl) hF (by decide) (fun a hF => ?_)
  refine sq_buildSlice (κ := k_TCube) (xs := [.tmp 6]) (ys := [TCube.zero]) hF hS rfl rfl rfl (Els.cons rfl (Els.nil _ _ _)) rfl psl29 pz26 rfl (by decide) (by decide) (by decide) (fun A3 c4 a W hF hS => ?_)
  obtain ⟨x5, hx6, h⟩ := bindS h
  refine sq_call hF pc44 rfl (by decide) (ok_space_Within k (((hS.freeze (i := 1) rfl (posB rfl)).freeze (i := 0) rfl (posB rfl)).enter ⟨⟨1, rfl⟩, ⟨0, rfl⟩, trivial⟩) hx6) (fun v W hR a hF => ?_)
  obtain ⟨rfl, hT7⟩ := hR
  have hS := hS.grow hT7.below
  refine sq_val (v_move hF rfl) hF (by decide) (fun a hF => ?_)
  refine sq_val (v_extract hF rfl rfl) hF (by decide) (fun a hF => ?_)
  refine sq_val (v_extract hF rfl rfl) hF (by decide) (fun a hF => ?_)
  refine sq_val (v_assign hF rfl) hF (by decide) (fun a hF => ?_)
  refine sq_val (v_assign hF rfl) hF (by decide) (fun a hF => ?_)
  refine sq_nil ?_
  refine then_n ?_
  refine wp_seq ?_
  refine wp_reg ?_
  refine sq_val (v_move hF rfl) hF (by decide) (fun a hF => ?_)
  refine sq_val (v_eql hF rfl rfl) hF (by decide) (fun a hF => ?_)
  refine sq_val (v_move hF rfl) hF (by decide) (fun a hF => ?_)
  refine sq_cut 2 (fun a W => FH 30 [(15, .bool ((x5.2 == 0) && x5.1))] a ∧ St M w0 [] [⟨k_TCube, 26, A3, c4, [TCube.zero]⟩, ⟨k_TCube, 26, A1, c2, [TCube.zero]⟩] [] W) (fun a W hJ => ?_) ?_
  ·
    obtain ⟨hF, hS⟩ := hJ
    refine sq_val (v_move hF rfl) hF (by decide) (fun a hF => ?_)
    obtain ⟨x10, h, hk12⟩ := bindS h
    refine sq_cut 5 (fun a W => FH 30 [(21, .bool x10)] a ∧ St M w0 [] [⟨k_TCube, 26, A3, c4, [TCube.zero]⟩, ⟨k_TCube, 26, A1, c2, [TCube.zero]⟩] [] W) (fun a W hJ => ?_) ?_
    ·
      have h := hk12
      obtain ⟨hF, hS⟩ := hJ
      refine sq_val (v_move hF rfl) hF (by decide) (fun a hF => ?_)
      obtain ⟨x19, h, hk21⟩ := bindS h
      refine sq_cut 7 (fun a W => FH 30 [(29, .bool x19)] a ∧ St M w0 [] [⟨k_TCube, 26, A3, c4, [TCube.zero]⟩, ⟨k_TCube, 26, A1, c2, [TCube.zero]⟩] [] W) (fun a W hJ => ?_) ?_
      ·
        have h := hk21
        obtain ⟨hF, hS⟩ := hJ
        refine sq_val (v_assign hF rfl) hF (by decide) (fun a hF => ?_)
        refine sq_nil ?_
        refine then_n ?_
        refine wp_ret ?_
        obtain rfl := Option.some.inj h
        exact ret1 hF rfl (rv_tmp hF rfl) ⟨_, rfl, rfl, (hS.keep (List.Sublist.refl _) (List.nil_sublist _) trivial)⟩
      ·
        by_cases he18 : x10 = true
        ·
          replace h := ifT he18 h
          refine sq_yes hF rfl rfl he18 ?_
          refine sq_val (v_build (parts := []) (out := TCube.enc TCube.zero) hF rfl rfl pz26 rfl pp26 rfl) hF (by decide) (fun a hF => ?_)
          refine sq_yes hF rfl rfl he18 ?_
          refine sq_val (v_build (parts := []) (out := TCube.enc TCube.zero) hF rfl rfl pz26 rfl pp26 rfl) hF (by decide) (fun a hF => ?_)
          refine sq_yes hF rfl rfl he18 ?_
          refine sq_buildSlice (κ := k_TCube) (xs := [.tmp 23, .tmp 24]) (ys := [TCube.zero, TCube.zero]) hF hS rfl rfl rfl (Els.cons rfl (Els.cons rfl (Els.nil _ _ _))) rfl psl29 pz26 rfl (by decide) (by decide) (by decide) (fun A22 c23 a W hF hS => ?_)
          refine sq_yes hF rfl rfl he18 ?_
          have hS := hS.freeze (i := 0) rfl (posB rfl)
          obtain ⟨x24, hx25, h⟩ := bindS h
          refine sq_call hF pc37 rfl (by decide) (ok_space_Lean k (hS.enter ⟨⟨0, rfl⟩, trivial⟩) hx25) (fun v W hR a hF => ?_)
          obtain ⟨A26, c27, rfl, hT28⟩ := hR
          have hS := hS.join hT28
          refine sq_yes hF rfl rfl he18 ?_
          refine sq_val (v_len hF rfl pu29) hF (by decide) (fun a hF => ?_)
          refine sq_yes hF rfl rfl he18 ?_
          refine sq_val (v_eql hF rfl rfl) hF (by decide) (fun a hF => ?_)
          refine sq_val (v_pick_t hF rfl he18 rfl) hF (by decide) (fun a hF => ?_)
          obtain rfl := Option.some.inj h
          exact sq_nil (then_j ⟨(hF.keep ⟨rfl, trivial⟩), (hS.keep (List.Sublist.refl _) (.cons _ (List.Sublist.refl _)) trivial)⟩)
        ·
          have he18 : x10 = false := nB he18
          replace h := ifF he18 h
          refine sq_no hF rfl rfl he18 (by rintro x ⟨⟩; decide) (fun a hF => ?_)
          refine sq_no hF rfl rfl he18 (by rintro x ⟨⟩; decide) (fun a hF => ?_)
          refine sq_no hF rfl rfl he18 (by rintro x ⟨⟩; decide) (fun a hF => ?_)
          refine sq_no hF rfl rfl he18 (by rintro x ⟨⟩; decide) (fun a hF => ?_)
          refine sq_no hF rfl rfl he18 (by rintro x ⟨⟩; decide) (fun a hF => ?_)
          refine sq_no hF rfl rfl he18 (by rintro x ⟨⟩; decide) (fun a hF => ?_)
          refine sq_val (v_pick_f hF rfl he18 rfl) hF (by decide) (fun a hF => ?_)
          obtain rfl := Option.some.inj h
          exact sq_nil (then_j ⟨(hF.keep ⟨rfl, trivial⟩), hS⟩)
    ·
      by_cases he9 : ((x5.2 == 0) && x5.1) = true
      ·
        replace h := ifT he9 h
        refine sq_yes hF rfl rfl he9 ?_
        refine sq_val (v_build (parts := []) (out := TCube.enc TCube.zero) hF rfl rfl pz26 rfl pp26 rfl) hF (by decide) (fun a hF => ?_)
        refine sq_yes hF rfl rfl he9 ?_
        refine sq_buildSlice (κ := k_TCube) (xs := [.tmp 17]) (ys := [TCube.zero]) hF hS rfl rfl rfl (Els.cons rfl (Els.nil _ _ _)) rfl psl29 pz26 rfl (by decide) (by decide) (by decide) (fun A13 c14 a W hF hS => ?_)
        refine sq_yes hF rfl rfl he9 ?_
        refine sq_val (v_buildA (parts := []) (out := A12u64.enc A12u64.zero) hF rfl rfl pz24 rfl par24 rfl) hF (by decide) (fun a hF => ?_)
        refine sq_yes hF rfl rfl he9 ?_
        obtain ⟨x15, hx16, h⟩ := bindS h
        refine sq_call hF pc40 rfl (by decide) (ok_space_Has k ((hS.freeze (i := 0) rfl (posB rfl)).enter ⟨⟨0, rfl⟩, trivial⟩) hx16) (fun v W hR a hF => ?_)
        obtain ⟨rfl, hT17⟩ := hR
        have hS := hS.grow hT17.below
        refine sq_val (v_pick_t hF rfl he9 rfl) hF (by decide) (fun a hF => ?_)
        obtain rfl := Option.some.inj h
        exact sq_nil (then_j ⟨(hF.keep ⟨rfl, trivial⟩), (hS.keep (List.Sublist.refl _) (.cons _ (List.Sublist.refl _)) trivial)⟩)
      ·
        have he9 : ((x5.2 == 0) && x5.1) = false := nB he9
        replace h := ifF he9 h
        refine sq_no hF rfl rfl he9 (by rintro x ⟨⟩; decide) (fun a hF => ?_)
        refine sq_no hF rfl rfl he9 (by rintro x ⟨⟩; decide) (fun a hF => ?_)
        refine sq_no hF rfl rfl he9 (by rintro x ⟨⟩; decide) (fun a hF => ?_)
        refine sq_no hF rfl rfl he9 (by rintro x ⟨⟩; decide) (fun a hF => ?_)
        refine sq_val (v_pick_f hF rfl he9 rfl) hF (by decide) (fun a hF => ?_)
        obtain rfl := Option.some.inj h
        exact sq_nil (then_j ⟨(hF.keep ⟨rfl, trivial⟩), hS⟩)
  ·
    by_cases he8 : (x5.2 == 0) = true
    ·
      refine sq_yes hF rfl rfl he8 ?_
      refine sq_val (v_move hF rfl) hF (by decide) (fun a hF => ?_)
      refine sq_val (v_pick_t hF rfl he8 rfl) hF (by decide) (fun a hF => ?_)
      exact sq_nil (then_j ⟨(hF.keep ⟨(boolV (and_t he8)), trivial⟩), hS⟩)
    ·
      have he8 : (x5.2 == 0) = false := nB he8
      refine sq_no hF rfl rfl he8 (by rintro x ⟨⟩; decide) (fun a hF => ?_)
      refine sq_val (v_pick_f hF rfl he8 rfl) hF (by decide) (fun a hF => ?_)
      exact sq_nil (then_j ⟨(hF.keep ⟨(boolV (and_f he8)), trivial⟩), hS⟩)

theorem ok_ref01_Size {M : Nat → Prop} {w0 : World} {u0 : Int} {o : Int} (hS : St M w0 [] [] [] w0) (h : ref01_Size u0 = some o) :
    Calls Try.prog 110 #[.int .i64 (u0)] w0 fun e W' => ∃ v, e = .returned v ∧ (v = .int .i64 (o) ∧ St M w0 [] [] [] W') := by
  unfold ref01_Size at h
  refine calls_start (args := [.int .i64 (u0)]) Try.func110 rfl rfl (Nat.le_of_ble_eq_true rfl) (fun a hF => ?_)
  refine wp_seq ?_
  refine wp_reg ?_
  refine sq_val (v_assign hF rfl) hF (by decide) (fun a hF => ?_)
  refine sq_nil ?_
  refine then_n ?_
  refine wp_seq ?_
  refine wp_seq ?_
  refine wp_reg ?_
  refine sq_val (v_move hF rfl) hF (by decide) (fun a hF => ?_)
  refine sq_val (v_lss hF rfl rfl) hF (by decide) (fun a hF => ?_)
  refine sq_val (v_move hF rfl) hF (by decide) (fun a hF => ?_)
  refine sq_cut 3 (fun a W => FH 13 [(0, .int .i64 (u0)), (8, .bool ((decide (u0 < 0)) || (decide (11 < u0))))] a ∧ St M w0 [] [] [] W) (fun a W hJ => ?_) ?_
  ·
    obtain ⟨hF, hS⟩ := hJ
    refine sq_nil ?_
    refine then_n ?_
    refine wp_if hF rfl (fun he2 => ?_) (fun he2 => ?_)
    ·
      replace h := ifT he2 h
      refine wp_seq ?_
      refine wp_reg ?_
      refine sq_val (v_assign hF rfl) hF (by decide) (fun a hF => ?_)
      refine sq_nil ?_
      refine then_n ?_
      refine wp_ret ?_
      refine then_r ?_
      obtain rfl := Option.some.inj h
      exact ret1 hF rfl (rv_tmp hF rfl) ⟨_, rfl, rfl, hS⟩
    ·
      replace h := ifF he2 h
      refine wp_skip ?_
      refine then_n ?_
      refine wp_seq ?_
      refine wp_reg ?_
      refine sq_buildSlice (κ := (kInt .i64)) (xs := [.const (.int .i64 16), .const (.int .i64 48), .const (.int .i64 48), .const (.int .i64 16), .const (.int .i64 12), .const (.int .i64 4), .const (.int .i64 32), .const (.int .i64 32), .const (.int .i64 8), .const (.int .i64 8), .const (.int .i64 12), .const (.int .i64 12)]) (ys := [16, 48, 48, 16, 12, 4, 32, 32, 8, 8, 12, 12]) hF hS rfl rfl rfl (Els.cons rfl (Els.cons rfl (Els.cons rfl (Els.cons rfl (Els.cons rfl (Els.cons rfl (Els.cons rfl (Els.cons rfl (Els.cons rfl (Els.cons rfl (Els.cons rfl (Els.cons rfl (Els.nil _ _ _))))))))))))) rfl psl76 pz3 rfl (by decide) (by decide) (by decide) (fun A3 c4 a W hF hS => ?_)
      refine sq_val (v_move hF rfl) hF (by decide) (fun a hF => ?_)
      obtain ⟨x5, hx6, h⟩ := bindS h
      obtain ⟨p7, cs8, hA9, hc11, hr12⟩ := Row.ok.at (hS.rw_ (i := 0) rfl) hx6
      obtain rfl : cs8 = [.int .i64 (x5)] := hr12
      refine sq_val (v_idx hF rfl hA9 rfl psl76 hx6) hF (by decide) (fun a hF => ?_)
      refine sq_val (v_load1 hF rfl pa3 hc11) hF (by decide) (fun a hF => ?_)
      refine sq_val (v_assign hF rfl) hF (by decide) (fun a hF => ?_)
      refine sq_nil ?_
      refine then_n ?_
      refine wp_ret ?_
      obtain rfl := Option.some.inj h
      exact ret1 hF rfl (rv_tmp hF rfl) ⟨_, rfl, rfl, (hS.keep (List.Sublist.refl _) (List.nil_sublist _) trivial)⟩
  ·
    by_cases he1 : (decide (u0 < 0)) = true
    ·
      refine sq_no hF rfl rfl he1 (by rintro x ⟨⟩; decide) (fun a hF => ?_)
      refine sq_no hF rfl rfl he1 (by rintro x ⟨⟩; decide) (fun a hF => ?_)
      refine sq_val (v_pick_t hF rfl he1 rfl) hF (by decide) (fun a hF => ?_)
      exact sq_nil (then_j ⟨(hF.keep ⟨rfl, (boolV (or_t he1)), trivial⟩), hS⟩)
    ·
      have he1 : (decide (u0 < 0)) = false := nB he1
      refine sq_yes hF rfl rfl he1 ?_
      refine sq_val (v_move hF rfl) hF (by decide) (fun a hF => ?_)
      refine sq_yes hF rfl rfl he1 ?_
      refine sq_val (v_gtr hF rfl rfl) hF (by decide) (fun a hF => ?_)
      refine sq_val (v_pick_f hF rfl he1 rfl) hF (by decide) (fun a hF => ?_)
      exact sq_nil (then_j ⟨(hF.keep ⟨rfl, (boolV (or_f he1)), trivial⟩), hS⟩)

theorem ok_ref01_Fits {M : Nat → Prop} {w0 : World} {u0 : Int} {u1 : Int} {o : Bool} (hS : St M w0 [] [] [] w0) (h : ref01_Fits u0 u1 = some o) :
    Calls Try.prog 114 #[.int .u64 (u0), .int .i64 (u1)] w0 fun e W' => ∃ v, e = .returned v ∧ (v = .bool (o) ∧ St M w0 [] [] [] W') := by
  unfold ref01_Fits at h
  refine calls_start (args := [.int .u64 (u0), .int .i64 (u1)]) Try.func114 rfl rfl (Nat.le_of_ble_eq_true rfl) (fun a hF => ?_)
  refine wp_seq ?_
  refine wp_reg ?_
  refine sq_val (v_assign hF rfl) hF (by decide) (fun a hF => ?_)
  refine sq_nil ?_
  refine then_n ?_
  refine wp_seq ?_
  refine wp_reg ?_
  refine sq_val (v_move hF rfl) hF (by decide) (fun a hF => ?_)
  refine sq_val (v_move hF rfl) hF (by decide) (fun a hF => ?_)
  refine sq_val (v_convI hF rfl pu3 pu137) hF (by decide) (fun a hF => ?_)
  obtain ⟨hb1, h⟩ := ifS h
  refine sq_val (v_shl hF rfl rfl hb1) hF (by decide) (fun a hF => ?_)
  refine sq_val (v_lss hF rfl rfl) hF (by decide) (fun a hF => ?_)
  refine sq_val (v_assign hF rfl) hF (by decide) (fun a hF => ?_)
  refine sq_nil ?_
  refine then_n ?_
  refine wp_ret ?_
  obtain rfl := Option.some.inj h
  exact ret1 hF rfl (rv_tmp hF rfl) ⟨_, rfl, rfl, hS⟩

theorem ok_ref01_Head (k : Nat) {M : Nat → Prop} {w0 : World} {u0 : Arr 12} {o : Bool} (hS : St M w0 [] [] [] w0) (h : ref01_Head k u0 = some o) :
    Calls Try.prog 61 #[.agg (A12u64.enc u0).toArray] w0 fun e W' => ∃ v, e = .returned v ∧ (v = .bool (o) ∧ St M w0 [] [] [] W') := by
  unfold ref01_Head at h
  refine calls_start (args := [.agg (A12u64.enc u0).toArray]) Try.func61 rfl rfl (Nat.le_of_ble_eq_true rfl) (fun a hF => ?_)
  refine wp_seq ?_
  refine wp_reg ?_
  refine sq_box hF hS rfl rfl (by decide) (fun b1 a W hF hS => ?_)
  refine sq_val (v_assign hF rfl) hF (by decide) (fun a hF => ?_)
  refine sq_nil ?_
  refine then_n ?_
  refine wp_seq ?_
  refine wp_seq ?_
  refine wp_reg ?_
  refine sq_val (v_assign hF rfl) hF (by decide) (fun a hF => ?_)
  refine sq_nil ?_
  refine then_n ?_
  obtain ⟨o4, h, hk5⟩ := bindS h
  refine wp_join (fun a W => Lo.brk () = o4 ∧ FH 15 [] a ∧ St M w0 [] [] [] W) (fun a W hJ => ?_) ?_
  ·
    obtain ⟨rfl, hF, hS⟩ := hJ
    have h := hk5
    dsimp only at h
    refine then_n ?_
    refine wp_seq ?_
    refine wp_reg ?_
    refine sq_val (v_assign hF rfl) hF (by decide) (fun a hF => ?_)
    refine sq_nil ?_
    refine then_n ?_
    refine wp_ret ?_
    obtain rfl := Option.some.inj h
    exact ret1 hF rfl (rv_tmp hF rfl) ⟨_, rfl, rfl, hS⟩
  ·
    refine wp_block ?_
    refine wp_loop_fuel (I := fun m a W => ∃ (x3 : Int), FH 15 [(1, .pointer (some (⟨b1, 0, none⟩))), (3, .int .i64 (x3))] a ∧ St M w0 [⟨b1, A12u64.enc u0, 24⟩] [] [] W ∧ (ref01_Head.l0 k u0 m x3) = some o4) ?_ (k := k) ⟨0, (hF.keep ⟨rfl, rfl, trivial⟩), hS, h⟩
    rintro m6 a W ⟨x3, hF, hS, h⟩
    cases m6 with
    | zero => cases h
    | succ m6 =>
      rw [ref01_Head.l0] at h
      refine wp_seq ?_
      refine wp_seq ?_
      refine wp_reg ?_
      refine sq_val (v_move hF rfl) hF (by decide) (fun a hF => ?_)
      refine sq_val (v_lss hF rfl rfl) hF (by decide) (fun a hF => ?_)
      refine sq_nil ?_
      refine then_n ?_
      refine wp_if hF rfl (fun he7 => ?_) (fun he7 => ?_)
      ·
        replace h := ifT he7 h
        refine wp_skip ?_
        refine then_n ?_
        refine wp_seq ?_
        refine wp_block ?_
        refine wp_seq ?_
        refine wp_quiet rfl (by kernel_rfl) hS ?_
        refine qt_val (fun W hC => (v_move hF rfl)) hF (by decide) (fun a hF => ?_)
        obtain ⟨hb8, h⟩ := ifS h
        refine qt_val (fun W hC => (v_indexAddr hF rfl rfl par24 hb8.1 hb8.2)) hF (by decide) (fun a hF => ?_)
        refine qt_val (fun W hC => (v_load1 hF rfl pa22 (cells_sub (vs := [.int .u64 ((u0.at x3))]) (hC.2.bc (i := 0) rfl) rfl (A12u64.get u0 x3 hb8.1 hb8.2)))) hF (by decide) (fun a hF => ?_)
        refine qt_val (fun W hC => (v_move hF rfl)) hF (by decide) (fun a hF => ?_)
        obtain ⟨x9, hx10, h⟩ := bindS h
        refine qt_call hF pc110 rfl (by decide) (fun W hC => q_of hC (ok_ref01_Size (hC.2.enter trivial) hx10)) (fun a hF => ?_)
        obtain ⟨x11, hx12, h⟩ := bindS h
        refine qt_call hF pc114 rfl (by decide) (fun W hC => q_of hC (ok_ref01_Fits (hC.2.enter trivial) hx12)) (fun a hF => ?_)
        refine qt_val (fun W hC => (v_not hF rfl)) hF (by decide) (fun a hF => ?_)
        refine qt_nil ?_
        intro W hC
        have hS := hC.2
        refine then_n ?_
        refine wp_if hF rfl (fun he13 => ?_) (fun he13 => ?_)
        ·
          replace h := ifT he13 h
          refine wp_seq ?_
          refine wp_reg ?_
          refine sq_val (v_assign hF rfl) hF (by decide) (fun a hF => ?_)
          refine sq_nil ?_
          refine then_n ?_
          refine wp_ret ?_
          refine blk_r ?_
          refine then_r ?_
          refine then_r ?_
          refine blk_r ?_
          refine then_r ?_
          refine then_r ?_
          obtain rfl := Option.some.inj h
          have h := hk5
          dsimp only at h
          obtain rfl := Option.some.inj h
          exact ret1 hF rfl (rv_tmp hF rfl) ⟨_, rfl, rfl, (hS.keep (List.nil_sublist _) (List.Sublist.refl _) trivial)⟩
        ·
          replace h := ifF he13 h
          refine wp_skip ?_
          refine blk_n ?_
          refine then_n ?_
          refine wp_reg ?_
          refine sq_val (v_move hF rfl) hF (by decide) (fun a hF => ?_)
          refine sq_val (v_add hF rfl rfl) hF (by decide) (fun a hF => ?_)
          refine sq_val (v_assign hF rfl) hF (by decide) (fun a hF => ?_)
          refine sq_nil ?_
          exact then_j ⟨m6, Nat.lt_succ_self _, (IntKind.i64.wrap (x3 + 1)), (hF.keep ⟨rfl, rfl, trivial⟩), hS, h⟩
      ·
        replace h := ifF he7 h
        refine wp_exit ?_
        refine then_x ?_
        refine then_x ?_
        refine blk_hit ?_
        obtain rfl := Option.some.inj h
        exact then_j ⟨rfl, (hF.keep trivial), (hS.keep (List.nil_sublist _) (List.Sublist.refl _) trivial)⟩

theorem ok_ref01_Bits (k : Nat) {M : Nat → Prop} {w0 : World} {u0 : Int} {u1 : Int} {o : (List Bool)} (hS : St M w0 [] [] [] w0) (h : ref01_Bits k u0 u1 = some o) :
    Calls Try.prog 109 #[.int .u64 (u0), .int .i64 (u1)] w0 fun e W' => ∃ v, e = .returned v ∧ (∃ (A23 : Option Addr) (c24 : Nat), v = .slice A23 ((o).length) c24 ∧ St M w0 [] [⟨kBool, 4, A23, c24, o⟩] [] W') := by
  unfold ref01_Bits at h
  refine calls_start (args := [.int .u64 (u0), .int .i64 (u1)]) Try.func109 rfl rfl (Nat.le_of_ble_eq_true rfl) (fun a hF => ?_)
  refine wp_seq ?_
  refine wp_reg ?_
  refine sq_val (v_assign hF rfl) hF (by decide) (fun a hF => ?_)
  refine sq_nil ?_
  refine then_n ?_
  refine wp_seq ?_
  refine wp_reg ?_
  refine sq_val (v_assign hF rfl) hF (by decide) (fun a hF => ?_)
  refine sq_nil ?_
  refine then_n ?_
  refine wp_seq ?_
  refine wp_seq ?_
  refine wp_reg ?_
  refine sq_val (v_move hF rfl) hF (by decide) (fun a hF => ?_)
  refine sq_val (v_sub hF rfl rfl) hF (by decide) (fun a hF => ?_)
  refine sq_val (v_assign hF rfl) hF (by decide) (fun a hF => ?_)
  refine sq_nil ?_
  refine then_n ?_
  obtain ⟨o12, h, hk13⟩ := bindS h
  refine wp_join (fun a W => ∃ (x9 : List Bool) (A10 : Option Addr) (c11 : Nat), x9 = o12 ∧ FH 23 [(5, .slice A10 ((x9).length) c11)] a ∧ St M w0 [] [⟨kBool, 4, A10, c11, x9⟩] [] W) (fun a W hJ => ?_) ?_
  ·
    obtain ⟨x9, A10, c11, rfl, hF, hS⟩ := hJ
    have h := hk13
    refine then_n ?_
    refine wp_seq ?_
    refine wp_reg ?_
    refine sq_val (v_move hF rfl) hF (by decide) (fun a hF => ?_)
    refine sq_val (v_assign hF rfl) hF (by decide) (fun a hF => ?_)
    refine sq_nil ?_
    refine then_n ?_
    refine wp_ret ?_
    obtain rfl := Option.some.inj h
    exact ret1 hF rfl (rv_tmp hF rfl) ⟨_, rfl, A10, c11, rfl, hS⟩
  ·
    have hS := hS.addNil kBool 4
    refine wp_block ?_
    refine wp_loop_fuel (I := fun m a W => ∃ (x5 : List Bool) (x8 : Int) (A6 : Option Addr) (c7 : Nat), FH 23 [(0, .int .u64 (u0)), (5, .slice A6 ((x5).length) c7), (6, .int .i64 (x8))] a ∧ St M w0 [] [⟨kBool, 4, A6, c7, x5⟩] [] W ∧ (ref01_Bits.l0 k u0 m x5 x8) = some o12) ?_ (k := k) ⟨([]), (IntKind.i64.wrap (u1 - 1)), none, 0, (hF.keep ⟨rfl, rfl, rfl, trivial⟩), hS, h⟩
    rintro m14 a W ⟨x5, x8, A6, c7, hF, hS, h⟩
    cases m14 with
    | zero => cases h
    | succ m14 =>
      rw [ref01_Bits.l0] at h
      refine wp_seq ?_
      refine wp_seq ?_
      refine wp_reg ?_
      refine sq_val (v_move hF rfl) hF (by decide) (fun a hF => ?_)
      refine sq_val (v_geq hF rfl rfl) hF (by decide) (fun a hF => ?_)
      refine sq_nil ?_
      refine then_n ?_
      refine wp_if hF rfl (fun he15 => ?_) (fun he15 => ?_)
      ·
        replace h := ifT he15 h
        refine wp_skip ?_
        refine then_n ?_
        refine wp_seq ?_
        refine wp_block ?_
        refine wp_reg ?_
        refine sq_val (v_move hF rfl) hF (by decide) (fun a hF => ?_)
        refine sq_val (v_move hF rfl) hF (by decide) (fun a hF => ?_)
        refine sq_val (v_move hF rfl) hF (by decide) (fun a hF => ?_)
        refine sq_val (v_convI hF rfl pu3 pu137) hF (by decide) (fun a hF => ?_)
        obtain ⟨hb16, h⟩ := ifS h
        refine sq_val (v_shr hF rfl rfl hb16) hF (by decide) (fun a hF => ?_)
        refine sq_val (v_and hF rfl rfl) hF (by decide) (fun a hF => ?_)
        refine sq_val (v_eql hF rfl rfl) hF (by decide) (fun a hF => ?_)
        refine sq_buildSlice (κ := kBool) (xs := [.tmp 19]) (ys := [((bAnd .u64 (bShr .u64 u0 (IntKind.u64.wrap x8)) 1) == 1)]) hF hS rfl rfl rfl (Els.cons rfl (Els.nil _ _ _)) rfl psl116 pz4 rfl (by decide) (by decide) (by decide) (fun A17 c18 a W hF hS => ?_)
        obtain ⟨x21, hx22, h⟩ := bindS h
        refine sq_append (ys := ([((bAnd .u64 (bShr .u64 u0 (IntKind.u64.wrap x8)) 1) == 1)])) hF hS (i := 1) rfl rfl rfl (hS.rw_ (i := 0) rfl).src psl116 pb4 pz4 rfl (by decide) (by decide) hx22 (by decide) (fun A19 c20 a W hF hS => ?_)
        refine sq_val (v_assign hF rfl) hF (by decide) (fun a hF => ?_)
        refine sq_nil ?_
        refine blk_n ?_
        refine then_n ?_
        refine wp_reg ?_
        refine sq_val (v_move hF rfl) hF (by decide) (fun a hF => ?_)
        refine sq_val (v_sub hF rfl rfl) hF (by decide) (fun a hF => ?_)
        refine sq_val (v_assign hF rfl) hF (by decide) (fun a hF => ?_)
        refine sq_nil ?_
        exact then_j ⟨m14, Nat.lt_succ_self _, x21, (IntKind.i64.wrap (x8 - 1)), A19, c20, (hF.keep ⟨rfl, rfl, rfl, trivial⟩), (hS.keep (List.Sublist.refl _) (.cons _ (List.Sublist.refl _)) trivial), h⟩
      ·
        replace h := ifF he15 h
        refine wp_exit ?_
        refine then_x ?_
        refine then_x ?_
        refine blk_hit ?_
        obtain rfl := Option.some.inj h
        exact then_j ⟨x5, A6, c7, rfl, (hF.keep ⟨rfl, trivial⟩), hS⟩
end Go.Proofs.Ytangebngeeamoaa
