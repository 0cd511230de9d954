/- What calls of the Go functions come to. -/
import Derived.Test.YtangebngeeamoaaW11
set_option linter.unusedVariables false
set_option linter.unusedSimpArgs false
set_option maxRecDepth 100000
set_option maxHeartbeats 4000000
namespace Go.Proofs.Ytangebngeeamoaa
open Go.RowKit Go.Pod
theorem ok_ref01_Has (k : Nat) {M : Nat → Prop} {w0 : World} {u0 : TCube} {u1 : Arr 12} {o : Bool} (hS : St M w0 [] [] [] w0) (h : ref01_Has k u0 u1 = some o) :
    Calls Try.prog 16 #[.agg (TCube.enc u0).toArray, .agg (A12u64.enc u1).toArray] w0 fun e W' => ∃ v, e = .returned v ∧ (v = .bool (o) ∧ St M w0 [] [] [] W') := by
  unfold ref01_Has at h
  refine calls_start (args := [.agg (TCube.enc u0).toArray, .agg (A12u64.enc u1).toArray]) Try.func16 rfl rfl (Nat.le_of_ble_eq_true rfl) (fun a hF => ?_)
  refine wp_seq ?_
  refine wp_reg ?_
  refine sq_box hF hS rfl rfl (by decide) (fun b1 a W hF hS => ?_)
  refine sq_box hF hS rfl rfl (by decide) (fun b2 a W hF hS => ?_)
  refine sq_val (v_assign hF rfl) hF (by decide) (fun a hF => ?_)
  refine sq_nil ?_
  refine then_n ?_
  refine wp_seq ?_
  refine wp_reg ?_
  refine sq_val (v_load (cs := TCube.enc u0) hF rfl pa26 ps26 (hS.bc (i := 1) rfl)) hF (by decide) (fun a hF => ?_)
  obtain ⟨x3, hx4, h⟩ := bindS h
  refine sq_call hF pc55 rfl (by decide) (ok_ref01_Text k (hS.enter trivial) hx4) (fun v W hR a hF => ?_)
  obtain ⟨rfl, hT5⟩ := hR
  have hS := hS.grow hT5.below
  refine sq_val (v_move hF rfl) hF (by decide) (fun a hF => ?_)
  refine sq_val (v_extract hF rfl rfl) hF (by decide) (fun a hF => ?_)
  refine sq_val (v_extract hF rfl rfl) hF (by decide) (fun a hF => ?_)
  refine sq_val (v_assign hF rfl) hF (by decide) (fun a hF => ?_)
  refine sq_val (v_assign hF rfl) hF (by decide) (fun a hF => ?_)
  refine sq_nil ?_
  refine then_n ?_
  refine wp_seq ?_
  refine wp_reg ?_
  refine sq_val (v_load (cs := A12u64.enc u1) hF rfl pa24 ps24 (hS.bc (i := 0) rfl)) hF (by decide) (fun a hF => ?_)
  obtain ⟨x6, hx7, h⟩ := bindS h
  refine sq_call hF pc60 rfl (by decide) (ok_ref01_Whole k (hS.enter trivial) hx7) (fun v W hR a hF => ?_)
  obtain ⟨rfl, hT8⟩ := hR
  have hS := hS.grow hT8.below
  refine sq_val (v_assign hF rfl) hF (by decide) (fun a hF => ?_)
  refine sq_nil ?_
  refine then_n ?_
  refine wp_seq ?_
  refine wp_seq ?_
  refine wp_reg ?_
  refine sq_val (v_assign hF rfl) hF (by decide) (fun a hF => ?_)
  refine sq_nil ?_
  refine then_n ?_
  obtain ⟨o14, h, hk15⟩ := bindS h
  refine wp_join (fun a W => ∃ (x13 : Bool), x13 = o14 ∧ FH 43 [(3, .pointer (some (⟨b2, 0, none⟩))), (6, .bool (x13))] a ∧ St M w0 [⟨b2, A12u64.enc u1, 24⟩] [] [] W) (fun a W hJ => ?_) ?_
  ·
    obtain ⟨x13, rfl, hF, hS⟩ := hJ
    have h := hk15
    refine then_n ?_
    refine wp_seq ?_
    refine wp_reg ?_
    refine sq_val (v_move hF rfl) hF (by decide) (fun a hF => ?_)
    refine sq_val (v_move hF rfl) hF (by decide) (fun a hF => ?_)
    obtain ⟨x17, h, hk19⟩ := bindS h
    refine sq_cut 3 (fun a W => FH 43 [(42, .bool x17)] a ∧ St M w0 [⟨b2, A12u64.enc u1, 24⟩] [] [] W) (fun a W hJ => ?_) ?_
    ·
      have h := hk19
      obtain ⟨hF, hS⟩ := hJ
      refine sq_val (v_assign hF rfl) hF (by decide) (fun a hF => ?_)
      refine sq_nil ?_
      refine then_n ?_
      refine wp_ret ?_
      obtain rfl := Option.some.inj h
      exact ret1 hF rfl (rv_tmp hF rfl) ⟨_, rfl, rfl, (hS.keep (List.nil_sublist _) (List.Sublist.refl _) trivial)⟩
    ·
      by_cases he16 : x13 = true
      ·
        replace h := ifT he16 h
        refine sq_yes hF rfl rfl he16 ?_
        refine sq_val (v_load (cs := A12u64.enc u1) hF rfl pa24 ps24 (hS.bc (i := 0) rfl)) hF (by decide) (fun a hF => ?_)
        refine sq_yes hF rfl rfl he16 ?_
        obtain ⟨x20, hx21, h⟩ := bindS h
        refine sq_call hF pc61 rfl (by decide) (ok_ref01_Head k (hS.enter trivial) hx21) (fun v W hR a hF => ?_)
        obtain ⟨rfl, hT22⟩ := hR
        have hS := hS.grow hT22.below
        refine sq_val (v_pick_t hF rfl he16 rfl) hF (by decide) (fun a hF => ?_)
        obtain rfl := Option.some.inj h
        exact sq_nil (then_j ⟨(hF.keep ⟨rfl, trivial⟩), hS⟩)
      ·
        have he16 : x13 = false := nB he16
        replace h := ifF he16 h
        refine sq_no hF rfl rfl he16 (by rintro x ⟨⟩; decide) (fun a hF => ?_)
        refine sq_no hF rfl rfl he16 (by rintro x ⟨⟩; decide) (fun a hF => ?_)
        refine sq_val (v_pick_f hF rfl he16 rfl) hF (by decide) (fun a hF => ?_)
        obtain rfl := Option.some.inj h
        exact sq_nil (then_j ⟨(hF.keep ⟨rfl, trivial⟩), hS⟩)
  ·
    refine wp_block ?_
    refine wp_loop_fuel (I := fun m a W => ∃ (x11 : Bool) (x12 : Int), FH 43 [(3, .pointer (some (⟨b2, 0, none⟩))), (5, .string (x3.1)), (6, .bool (x11)), (7, .string (x6)), (8, .int .i64 (x12))] a ∧ St M w0 [⟨b2, A12u64.enc u1, 24⟩] [] [] W ∧ (ref01_Has.l0 k x3 x6 m x11 x12) = some o14) ?_ (k := k) ⟨x3.2, 0, (hF.keep ⟨rfl, rfl, rfl, rfl, rfl, trivial⟩), (hS.keep (.cons_cons _ (List.nil_sublist _)) (List.Sublist.refl _) trivial), h⟩
    rintro m23 a W ⟨x11, x12, hF, hS, h⟩
    cases m23 with
    | zero => cases h
    | succ m23 =>
      rw [ref01_Has.l0] at h
      refine wp_seq ?_
      refine wp_seq ?_
      refine wp_reg ?_
      refine sq_val (v_move hF rfl) hF (by decide) (fun a hF => ?_)
      refine sq_val (v_move hF rfl) hF (by decide) (fun a hF => ?_)
      refine sq_val (v_lenS hF rfl pu9) hF (by decide) (fun a hF => ?_)
      refine sq_val (v_lss hF rfl rfl) hF (by decide) (fun a hF => ?_)
      refine sq_nil ?_
      refine then_n ?_
      refine wp_if hF rfl (fun he24 => ?_) (fun he24 => ?_)
      ·
        replace h := ifT he24 h
        refine wp_skip ?_
        refine then_n ?_
        refine wp_seq ?_
        refine wp_block ?_
        refine wp_quiet rfl (by kernel_rfl) hS ?_
        refine qt_val (fun W hC => (v_move hF rfl)) hF (by decide) (fun a hF => ?_)
        refine qt_val (fun W hC => (v_move hF rfl)) hF (by decide) (fun a hF => ?_)
        obtain ⟨x26, h, hk28⟩ := bindS h
        refine qt_cut 14 (fun a => FH 43 [(3, .pointer (some (⟨b2, 0, none⟩))), (5, .string (x3.1)), (7, .string (x6)), (8, .int .i64 (x12)), (37, .bool x26)] a) (fun a hF => ?_) ?_
        ·
          have h := hk28
          refine qt_val (fun W hC => (v_assign hF rfl)) hF (by decide) (fun a hF => ?_)
          refine qt_nil ?_
          intro W hC
          have hS := hC.2
          refine blk_n ?_
          refine then_n ?_
          refine wp_reg ?_
          refine sq_val (v_move hF rfl) hF (by decide) (fun a hF => ?_)
          refine sq_val (v_add hF rfl rfl) hF (by decide) (fun a hF => ?_)
          refine sq_val (v_assign hF rfl) hF (by decide) (fun a hF => ?_)
          refine sq_nil ?_
          exact then_j ⟨m23, Nat.lt_succ_self _, x26, (IntKind.i64.wrap (x12 + 1)), (hF.keep ⟨rfl, rfl, rfl, rfl, rfl, trivial⟩), hS, h⟩
        ·
          by_cases he25 : x11 = true
          ·
            replace h := ifT he25 h
            refine qt_yes hF rfl rfl he25 ?_
            refine qt_val (fun W hC => (v_move hF rfl)) hF (by decide) (fun a hF => ?_)
            refine qt_yes hF rfl rfl he25 ?_
            refine qt_val (fun W hC => (v_move hF rfl)) hF (by decide) (fun a hF => ?_)
            refine qt_yes hF rfl rfl he25 ?_
            obtain ⟨hb29, h⟩ := ifS h
            refine qt_val (fun W hC => (v_indexStr hF rfl rfl pu9 hb29.1 hb29.2)) hF (by decide) (fun a hF => ?_)
            refine qt_yes hF rfl rfl he25 ?_
            refine qt_val (fun W hC => (v_eql hF rfl rfl)) hF (by decide) (fun a hF => ?_)
            refine qt_yes hF rfl rfl he25 ?_
            refine qt_val (fun W hC => (v_move hF rfl)) hF (by decide) (fun a hF => ?_)
            obtain ⟨x31, h, hk33⟩ := bindS h
            refine qt_cut 8 (fun a => FH 43 [(3, .pointer (some (⟨b2, 0, none⟩))), (5, .string (x3.1)), (7, .string (x6)), (8, .int .i64 (x12)), (23, .bool (x11)), (24, .string (x3.1)), (25, .int .i64 (x12)), (26, .int .u8 ((byteAt x3.1 x12))), (27, .bool (((byteAt x3.1 x12) == 120))), (28, .bool (((byteAt x3.1 x12) == 120))), (36, .bool x31)] a) (fun a hF => ?_) ?_
            ·
              have h := hk33
              refine qt_val (fun W hC => (v_pick_t hF rfl he25 rfl)) hF (by decide) (fun a hF => ?_)
              obtain rfl := Option.some.inj h
              exact qt_nil (hF.keep ⟨rfl, rfl, rfl, rfl, rfl, trivial⟩)
            ·
              by_cases he30 : ((byteAt x3.1 x12) == 120) = true
              ·
                replace h := ifT he30 h
                refine qt_no hF rfl rfl he30 (by decide) (fun a hF => ?_)
                refine qt_no hF rfl rfl he30 (by decide) (fun a hF => ?_)
                refine qt_no hF rfl rfl he30 (by decide) (fun a hF => ?_)
                refine qt_no hF rfl rfl he30 (by decide) (fun a hF => ?_)
                refine qt_no hF rfl rfl he30 (by decide) (fun a hF => ?_)
                refine qt_no hF rfl rfl he30 (by decide) (fun a hF => ?_)
                refine qt_no hF rfl rfl he30 (by decide) (fun a hF => ?_)
                refine qt_yes hF rfl rfl he25 ?_
                refine qt_val (fun W hC => (v_pick_t hF rfl he30 rfl)) hF (by decide) (fun a hF => ?_)
                obtain rfl := Option.some.inj h
                exact qt_nil (hF.keep ⟨rfl, rfl, rfl, rfl, rfl, rfl, rfl, rfl, rfl, rfl, rfl, trivial⟩)
              ·
                have he30 : ((byteAt x3.1 x12) == 120) = false := nB he30
                replace h := ifF he30 h
                refine qt_yes hF rfl rfl he30 ?_
                refine qt_val (fun W hC => (v_move hF rfl)) hF (by decide) (fun a hF => ?_)
                refine qt_yes hF rfl rfl he30 ?_
                refine qt_val (fun W hC => (v_move hF rfl)) hF (by decide) (fun a hF => ?_)
                refine qt_yes hF rfl rfl he30 ?_
                refine qt_val (fun W hC => (v_indexStr hF rfl rfl pu9 hb29.1 hb29.2)) hF (by decide) (fun a hF => ?_)
                refine qt_yes hF rfl rfl he30 ?_
                refine qt_val (fun W hC => (v_move hF rfl)) hF (by decide) (fun a hF => ?_)
                refine qt_yes hF rfl rfl he30 ?_
                refine qt_val (fun W hC => (v_move hF rfl)) hF (by decide) (fun a hF => ?_)
                refine qt_yes hF rfl rfl he30 ?_
                obtain ⟨hb34, h⟩ := ifS h
                refine qt_val (fun W hC => (v_indexStr hF rfl rfl pu9 hb34.1 hb34.2)) hF (by decide) (fun a hF => ?_)
                refine qt_yes hF rfl rfl he30 ?_
                refine qt_val (fun W hC => (v_eql hF rfl rfl)) hF (by decide) (fun a hF => ?_)
                refine qt_yes hF rfl rfl he25 ?_
                refine qt_val (fun W hC => (v_pick_f hF rfl he30 rfl)) hF (by decide) (fun a hF => ?_)
                obtain rfl := Option.some.inj h
                exact qt_nil (hF.keep ⟨rfl, rfl, rfl, rfl, rfl, rfl, rfl, rfl, rfl, rfl, rfl, trivial⟩)
          ·
            have he25 : x11 = false := nB he25
            replace h := ifF he25 h
            refine qt_no hF rfl rfl he25 (by decide) (fun a hF => ?_)
            refine qt_no hF rfl rfl he25 (by decide) (fun a hF => ?_)
            refine qt_no hF rfl rfl he25 (by decide) (fun a hF => ?_)
            refine qt_no hF rfl rfl he25 (by decide) (fun a hF => ?_)
            refine qt_no hF rfl rfl he25 (by decide) (fun a hF => ?_)
            refine qt_no2 hF rfl rfl (by decide) (fun a hF => ?_)
            refine qt_no2 hF rfl rfl (by decide) (fun a hF => ?_)
            refine qt_no2 hF rfl rfl (by decide) (fun a hF => ?_)
            refine qt_no2 hF rfl rfl (by decide) (fun a hF => ?_)
            refine qt_no2 hF rfl rfl (by decide) (fun a hF => ?_)
            refine qt_no2 hF rfl rfl (by decide) (fun a hF => ?_)
            refine qt_no2 hF rfl rfl (by decide) (fun a hF => ?_)
            refine qt_no hF rfl rfl he25 (by decide) (fun a hF => ?_)
            refine qt_val (fun W hC => (v_pick_f hF rfl he25 rfl)) hF (by decide) (fun a hF => ?_)
            obtain rfl := Option.some.inj h
            exact qt_nil (hF.keep ⟨rfl, rfl, rfl, rfl, rfl, trivial⟩)
      ·
        replace h := ifF he24 h
        refine wp_exit ?_
        refine then_x ?_
        refine then_x ?_
        refine blk_hit ?_
        obtain rfl := Option.some.inj h
        exact then_j ⟨x11, rfl, (hF.keep ⟨rfl, rfl, trivial⟩), hS⟩

theorem ok_cube_Has (k : Nat) {M : Nat → Prop} {w0 : World} {u0 : TCube} {u1 : Arr 12} {o : Bool} (hS : St M w0 [] [] [] w0) (h : cube_Has k u0 u1 = some o) :
    Calls Try.prog 15 #[.agg (TCube.enc u0).toArray, .agg (A12u64.enc u1).toArray] w0 fun e W' => ∃ v, e = .returned v ∧ (v = .bool (o) ∧ St M w0 [] [] [] W') := by
  unfold cube_Has at h
  refine calls_start (args := [.agg (TCube.enc u0).toArray, .agg (A12u64.enc u1).toArray]) Try.func15 rfl rfl (Nat.le_of_ble_eq_true rfl) (fun a hF => ?_)
  refine wp_seq ?_
  refine wp_reg ?_
  refine sq_box hF hS rfl rfl (by decide) (fun b1 a W hF hS => ?_)
  refine sq_box hF hS rfl rfl (by decide) (fun b2 a W hF hS => ?_)
  refine sq_val (v_assign hF rfl) hF (by decide) (fun a hF => ?_)
  refine sq_nil ?_
  refine then_n ?_
  refine wp_seq ?_
  refine wp_seq ?_
  refine wp_reg ?_
  refine sq_val (v_load (cs := A12u64.enc u1) hF rfl pa24 ps24 (hS.bc (i := 0) rfl)) hF (by decide) (fun a hF => ?_)
  refine sq_val (v_move hF rfl) hF (by decide) (fun a hF => ?_)
  refine sq_nil ?_
  refine then_n ?_
  obtain ⟨o5, h, hk6⟩ := bindS h
  refine wp_join (fun a W => Lo.brk () = o5 ∧ FH 30 [(2, .pointer (some (⟨b1, 0, none⟩))), (3, .pointer (some (⟨b2, 0, none⟩)))] a ∧ St M w0 [⟨b2, A12u64.enc u1, 24⟩, ⟨b1, TCube.enc u0, 26⟩] [] [] W) (fun a W hJ => ?_) ?_
  ·
    obtain ⟨rfl, hF, hS⟩ := hJ
    have h := hk6
    dsimp only at h
    refine then_n ?_
    refine wp_seq ?_
    refine wp_reg ?_
    refine sq_val (v_load (cs := TCube.enc u0) hF rfl pa26 ps26 (hS.bc (i := 1) rfl)) hF (by decide) (fun a hF => ?_)
    obtain ⟨x7, hx8, h⟩ := bindS h
    refine sq_call hF pc58 rfl (by decide) (ok_cube_Sound k (hS.enter trivial) hx8) (fun v W hR a hF => ?_)
    obtain ⟨rfl, hT9⟩ := hR
    have hS := hS.grow hT9.below
    refine sq_val (v_move hF rfl) hF (by decide) (fun a hF => ?_)
    obtain ⟨x11, h, hk13⟩ := bindS h
    refine sq_cut 3 (fun a W => FH 30 [(29, .bool x11)] a ∧ St M w0 [⟨b2, A12u64.enc u1, 24⟩, ⟨b1, TCube.enc u0, 26⟩] [] [] W) (fun a W hJ => ?_) ?_
    ·
      have h := hk13
      obtain ⟨hF, hS⟩ := hJ
      refine sq_val (v_assign hF rfl) hF (by decide) (fun a hF => ?_)
      refine sq_nil ?_
      refine then_n ?_
      refine wp_ret ?_
      obtain rfl := Option.some.inj h
      exact ret1 hF rfl (rv_tmp hF rfl) ⟨_, rfl, rfl, (hS.keep (List.nil_sublist _) (List.Sublist.refl _) trivial)⟩
    ·
      by_cases he10 : x7 = true
      ·
        replace h := ifT he10 h
        refine sq_yes hF rfl rfl he10 ?_
        refine sq_val (v_load (cs := A12u64.enc u1) hF rfl pa24 ps24 (hS.bc (i := 0) rfl)) hF (by decide) (fun a hF => ?_)
        refine sq_yes hF rfl rfl he10 ?_
        obtain ⟨x14, hx15, h⟩ := bindS h
        refine sq_call hF pc59 rfl (by decide) (ok_head_Sound k (hS.enter trivial) hx15) (fun v W hR a hF => ?_)
        obtain ⟨rfl, hT16⟩ := hR
        have hS := hS.grow hT16.below
        refine sq_val (v_pick_t hF rfl he10 rfl) hF (by decide) (fun a hF => ?_)
        obtain rfl := Option.some.inj h
        exact sq_nil (then_j ⟨(hF.keep ⟨rfl, trivial⟩), hS⟩)
      ·
        have he10 : x7 = false := nB he10
        replace h := ifF he10 h
        refine sq_no hF rfl rfl he10 (by rintro x ⟨⟩; decide) (fun a hF => ?_)
        refine sq_no hF rfl rfl he10 (by rintro x ⟨⟩; decide) (fun a hF => ?_)
        refine sq_val (v_pick_f hF rfl he10 rfl) hF (by decide) (fun a hF => ?_)
        obtain rfl := Option.some.inj h
        exact sq_nil (then_j ⟨(hF.keep ⟨rfl, trivial⟩), hS⟩)
  ·
    refine wp_block ?_
    refine wp_loop_fuel (I := fun m a W => ∃ (x4 : Int), FH 30 [(2, .pointer (some (⟨b1, 0, none⟩))), (3, .pointer (some (⟨b2, 0, none⟩))), (7, .agg (A12u64.enc u1).toArray), (8, .int .i64 (x4))] a ∧ St M w0 [⟨b2, A12u64.enc u1, 24⟩, ⟨b1, TCube.enc u0, 26⟩] [] [] W ∧ (cube_Has.l0 k u0 u1 m x4) = some o5) ?_ (k := k) ⟨0, (hF.keep ⟨rfl, rfl, rfl, rfl, trivial⟩), hS, h⟩
    rintro m17 a W ⟨x4, hF, hS, h⟩
    cases m17 with
    | zero => cases h
    | succ m17 =>
      rw [cube_Has.l0] at h
      refine wp_seq ?_
      refine wp_reg ?_
      refine sq_val (v_lss hF rfl rfl) hF (by decide) (fun a hF => ?_)
      refine sq_nil ?_
      refine then_n ?_
      refine wp_seq ?_
      refine wp_if hF rfl (fun he18 => ?_) (fun he18 => ?_)
      ·
        replace h := ifT he18 h
        refine wp_skip ?_
        refine then_n ?_
        refine wp_seq ?_
        refine wp_block ?_
        refine wp_seq ?_
        refine wp_reg ?_
        refine sq_val (v_move hF rfl) hF (by decide) (fun a hF => ?_)
        obtain ⟨hb19, h⟩ := ifS h
        refine sq_val (v_index1 hF rfl rfl par24 pa22 hb19.1 hb19.2 (cell1 (A12u64.get u1 x4 hb19.1 hb19.2))) hF (by decide) (fun a hF => ?_)
        refine sq_val (v_assign hF rfl) hF (by decide) (fun a hF => ?_)
        refine sq_val (v_assign hF rfl) hF (by decide) (fun a hF => ?_)
        refine sq_nil ?_
        refine then_n ?_
        refine wp_seq ?_
        refine wp_quiet rfl (by kernel_rfl) hS ?_
        refine qt_val (fun W hC => (v_move hF rfl)) hF (by decide) (fun a hF => ?_)
        refine qt_val (fun W hC => (v_move hF rfl)) hF (by decide) (fun a hF => ?_)
        refine qt_val (fun W hC => (v_fieldAddr hF rfl pf26_1)) hF (by decide) (fun a hF => ?_)
        refine qt_val (fun W hC => (v_indexAddr hF rfl rfl par24 hb19.1 hb19.2)) hF (by decide) (fun a hF => ?_)
        refine qt_val (fun W hC => (v_load1 hF rfl pa22 (cells_sub (vs := [.int .u64 ((u0.Care.at x4))]) (hC.2.bc (i := 1) rfl) (add_add _ _ _) (TCube.get_Care u0 x4 hb19.1 hb19.2)))) hF (by decide) (fun a hF => ?_)
        refine qt_val (fun W hC => (v_and hF rfl rfl)) hF (by decide) (fun a hF => ?_)
        refine qt_val (fun W hC => (v_move hF rfl)) hF (by decide) (fun a hF => ?_)
        refine qt_val (fun W hC => (v_fieldAddr hF rfl pf26_0)) hF (by decide) (fun a hF => ?_)
        refine qt_val (fun W hC => (v_indexAddr hF rfl rfl par24 hb19.1 hb19.2)) hF (by decide) (fun a hF => ?_)
        refine qt_val (fun W hC => (v_load1 hF rfl pa22 (cells_sub (vs := [.int .u64 ((u0.Value.at x4))]) (hC.2.bc (i := 1) rfl) (add_add _ _ _) (TCube.get_Value u0 x4 hb19.1 hb19.2)))) hF (by decide) (fun a hF => ?_)
        refine qt_val (fun W hC => (v_neq hF rfl rfl)) hF (by decide) (fun a hF => ?_)
        refine qt_nil ?_
        intro W hC
        have hS := hC.2
        refine then_n ?_
        refine wp_if hF rfl (fun he20 => ?_) (fun he20 => ?_)
        ·
          replace h := ifT he20 h
          refine wp_seq ?_
          refine wp_reg ?_
          refine sq_val (v_assign hF rfl) hF (by decide) (fun a hF => ?_)
          refine sq_nil ?_
          refine then_n ?_
          refine wp_ret ?_
          refine blk_r ?_
          refine then_r ?_
          refine then_r ?_
          refine blk_r ?_
          refine then_r ?_
          refine then_r ?_
          obtain rfl := Option.some.inj h
          have h := hk6
          dsimp only at h
          obtain rfl := Option.some.inj h
          exact ret1 hF rfl (rv_tmp hF rfl) ⟨_, rfl, rfl, (hS.keep (List.nil_sublist _) (List.Sublist.refl _) trivial)⟩
        ·
          replace h := ifF he20 h
          refine wp_skip ?_
          refine blk_n ?_
          refine then_n ?_
          refine wp_reg ?_
          refine sq_val (v_add hF rfl rfl) hF (by decide) (fun a hF => ?_)
          refine sq_val (v_move hF rfl) hF (by decide) (fun a hF => ?_)
          refine sq_nil ?_
          exact then_j ⟨m17, Nat.lt_succ_self _, (IntKind.i64.wrap (x4 + 1)), (hF.keep ⟨rfl, rfl, rfl, rfl, trivial⟩), hS, h⟩
      ·
        replace h := ifF he18 h
        refine wp_exit ?_
        refine then_x ?_
        refine then_x ?_
        refine blk_hit ?_
        obtain rfl := Option.some.inj h
        exact then_j ⟨rfl, (hF.keep ⟨rfl, rfl, trivial⟩), hS⟩
end Go.Proofs.Ytangebngeeamoaa
