/- What calls of the Go functions come to. -/
import Derived.Test.YtangebngeeamoaaW3
set_option linter.unusedVariables false
set_option linter.unusedSimpArgs false
set_option maxRecDepth 100000
set_option maxHeartbeats 4000000
namespace Go.Proofs.Ytangebngeeamoaa
open Go.RowKit Go.Pod
theorem ok_ref01_Plain (k : Nat) {M : Nat → Prop} {w0 : World} {u0 : TCube} {o : Bool} (hS : St M w0 [] [] [] w0) (h : ref01_Plain k u0 = some o) :
    Calls Try.prog 64 #[.agg (TCube.enc u0).toArray] w0 fun e W' => ∃ v, e = .returned v ∧ (v = .bool (o) ∧ St M w0 [] [] [] W') := by
  unfold ref01_Plain at h
  refine calls_start (args := [.agg (TCube.enc u0).toArray]) Try.func64 rfl rfl (Nat.le_of_ble_eq_true rfl) (fun a hF => ?_)
  refine wp_seq ?_
  refine wp_reg ?_
  refine sq_box hF hS rfl rfl (by decide) (fun b1 a W hF hS => ?_)
  refine sq_val (v_assign hF rfl) hF (by decide) (fun a hF => ?_)
  refine sq_nil ?_
  refine then_n ?_
  refine wp_seq ?_
  refine wp_seq ?_
  refine wp_reg ?_
  refine sq_val (v_assign hF rfl) hF (by decide) (fun a hF => ?_)
  refine sq_nil ?_
  refine then_n ?_
  obtain ⟨o4, h, hk5⟩ := bindS h
  refine wp_join (fun a W => Lo.brk () = o4 ∧ FH 21 [(1, .pointer (some (⟨b1, 0, none⟩)))] a ∧ St M w0 [⟨b1, TCube.enc u0, 26⟩] [] [] W) (fun a W hJ => ?_) ?_
  ·
    obtain ⟨rfl, hF, hS⟩ := hJ
    have h := hk5
    dsimp only at h
    refine then_n ?_
    refine wp_seq ?_
    refine wp_reg ?_
    refine sq_val (v_fieldAddr hF rfl pf26_1) hF (by decide) (fun a hF => ?_)
    refine sq_val (v_load (cs := A12u64.enc u0.Care) hF rfl pa24 ps24 (cells_sub (vs := A12u64.enc u0.Care) (hS.bc (i := 0) rfl) rfl rfl)) hF (by decide) (fun a hF => ?_)
    obtain ⟨x6, hx7, h⟩ := bindS h
    refine sq_call hF pc61 rfl (by decide) (ok_ref01_Head k (hS.enter trivial) hx7) (fun v W hR a hF => ?_)
    obtain ⟨rfl, hT8⟩ := hR
    have hS := hS.grow hT8.below
    refine sq_val (v_assign hF rfl) hF (by decide) (fun a hF => ?_)
    refine sq_nil ?_
    refine then_n ?_
    refine wp_ret ?_
    obtain rfl := Option.some.inj h
    exact ret1 hF rfl (rv_tmp hF rfl) ⟨_, rfl, rfl, (hS.keep (List.nil_sublist _) (List.Sublist.refl _) trivial)⟩
  ·
    refine wp_block ?_
    refine wp_loop_fuel (I := fun m a W => ∃ (x3 : Int), FH 21 [(1, .pointer (some (⟨b1, 0, none⟩))), (3, .int .i64 (x3))] a ∧ St M w0 [⟨b1, TCube.enc u0, 26⟩] [] [] W ∧ (ref01_Plain.l0 k u0 m x3) = some o4) ?_ (k := k) ⟨0, (hF.keep ⟨rfl, rfl, trivial⟩), hS, h⟩
    rintro m9 a W ⟨x3, hF, hS, h⟩
    cases m9 with
    | zero => cases h
    | succ m9 =>
      rw [ref01_Plain.l0] at h
      refine wp_seq ?_
      refine wp_seq ?_
      refine wp_reg ?_
      refine sq_val (v_move hF rfl) hF (by decide) (fun a hF => ?_)
      refine sq_val (v_lss hF rfl rfl) hF (by decide) (fun a hF => ?_)
      refine sq_nil ?_
      refine then_n ?_
      refine wp_if hF rfl (fun he10 => ?_) (fun he10 => ?_)
      ·
        replace h := ifT he10 h
        refine wp_skip ?_
        refine then_n ?_
        refine wp_seq ?_
        refine wp_block ?_
        refine wp_seq ?_
        refine wp_quiet rfl (by kernel_rfl) hS ?_
        refine qt_val (fun W hC => (v_move hF rfl)) hF (by decide) (fun a hF => ?_)
        refine qt_val (fun W hC => (v_fieldAddr hF rfl pf26_0)) hF (by decide) (fun a hF => ?_)
        obtain ⟨hb11, h⟩ := ifS h
        refine qt_val (fun W hC => (v_indexAddr hF rfl rfl par24 hb11.1 hb11.2)) hF (by decide) (fun a hF => ?_)
        refine qt_val (fun W hC => (v_load1 hF rfl pa22 (cells_sub (vs := [.int .u64 ((u0.Value.at x3))]) (hC.2.bc (i := 0) rfl) (add_add _ _ _) (TCube.get_Value u0 x3 hb11.1 hb11.2)))) hF (by decide) (fun a hF => ?_)
        refine qt_val (fun W hC => (v_move hF rfl)) hF (by decide) (fun a hF => ?_)
        refine qt_val (fun W hC => (v_fieldAddr hF rfl pf26_1)) hF (by decide) (fun a hF => ?_)
        refine qt_val (fun W hC => (v_indexAddr hF rfl rfl par24 hb11.1 hb11.2)) hF (by decide) (fun a hF => ?_)
        refine qt_val (fun W hC => (v_load1 hF rfl pa22 (cells_sub (vs := [.int .u64 ((u0.Care.at x3))]) (hC.2.bc (i := 0) rfl) (add_add _ _ _) (TCube.get_Care u0 x3 hb11.1 hb11.2)))) hF (by decide) (fun a hF => ?_)
        refine qt_val (fun W hC => (v_andNot hF rfl rfl)) hF (by decide) (fun a hF => ?_)
        refine qt_val (fun W hC => (v_neq hF rfl rfl)) hF (by decide) (fun a hF => ?_)
        refine qt_nil ?_
        intro W hC
        have hS := hC.2
        refine then_n ?_
        refine wp_if hF rfl (fun he12 => ?_) (fun he12 => ?_)
        ·
          replace h := ifT he12 h
          refine wp_seq ?_
          refine wp_reg ?_
          refine sq_val (v_assign hF rfl) hF (by decide) (fun a hF => ?_)
          refine sq_nil ?_
          refine then_n ?_
          refine wp_ret ?_
          refine blk_r ?_
          refine then_r ?_
          refine then_r ?_
          refine blk_r ?_
          refine then_r ?_
          refine then_r ?_
          obtain rfl := Option.some.inj h
          have h := hk5
          dsimp only at h
          obtain rfl := Option.some.inj h
          exact ret1 hF rfl (rv_tmp hF rfl) ⟨_, rfl, rfl, (hS.keep (List.nil_sublist _) (List.Sublist.refl _) trivial)⟩
        ·
          replace h := ifF he12 h
          refine wp_skip ?_
          refine blk_n ?_
          refine then_n ?_
          refine wp_reg ?_
          refine sq_val (v_move hF rfl) hF (by decide) (fun a hF => ?_)
          refine sq_val (v_add hF rfl rfl) hF (by decide) (fun a hF => ?_)
          refine sq_val (v_assign hF rfl) hF (by decide) (fun a hF => ?_)
          refine sq_nil ?_
          exact then_j ⟨m9, Nat.lt_succ_self _, (IntKind.i64.wrap (x3 + 1)), (hF.keep ⟨rfl, rfl, trivial⟩), hS, h⟩
      ·
        replace h := ifF he10 h
        refine wp_exit ?_
        refine then_x ?_
        refine then_x ?_
        refine blk_hit ?_
        obtain rfl := Option.some.inj h
        exact then_j ⟨rfl, (hF.keep ⟨rfl, trivial⟩), hS⟩

theorem ok_ref01_Within (k : Nat) {M : Nat → Prop} {w0 : World} {u0 : TCube} {u1 : TCube} {o : Bool} (hS : St M w0 [] [] [] w0) (h : ref01_Within k u0 u1 = some o) :
    Calls Try.prog 20 #[.agg (TCube.enc u0).toArray, .agg (TCube.enc u1).toArray] w0 fun e W' => ∃ v, e = .returned v ∧ (v = .bool (o) ∧ St M w0 [] [] [] W') := by
  unfold ref01_Within at h
  refine calls_start (args := [.agg (TCube.enc u0).toArray, .agg (TCube.enc u1).toArray]) Try.func20 rfl rfl (Nat.le_of_ble_eq_true rfl) (fun a hF => ?_)
  refine wp_seq ?_
  refine wp_reg ?_
  refine sq_box hF hS rfl rfl (by decide) (fun b1 a W hF hS => ?_)
  refine sq_box hF hS rfl rfl (by decide) (fun b2 a W hF hS => ?_)
  refine sq_val (v_assign hF rfl) hF (by decide) (fun a hF => ?_)
  refine sq_nil ?_
  refine then_n ?_
  refine wp_seq ?_
  refine wp_seq ?_
  refine wp_reg ?_
  refine sq_val (v_assign hF rfl) hF (by decide) (fun a hF => ?_)
  refine sq_nil ?_
  refine then_n ?_
  obtain ⟨o5, h, hk6⟩ := bindS h
  refine wp_join (fun a W => Lo.brk () = o5 ∧ FH 43 [(2, .pointer (some (⟨b1, 0, none⟩))), (3, .pointer (some (⟨b2, 0, none⟩)))] a ∧ St M w0 [⟨b2, TCube.enc u1, 26⟩, ⟨b1, TCube.enc u0, 26⟩] [] [] W) (fun a W hJ => ?_) ?_
  ·
    obtain ⟨rfl, hF, hS⟩ := hJ
    have h := hk6
    dsimp only at h
    refine then_n ?_
    refine wp_seq ?_
    refine wp_reg ?_
    refine sq_val (v_load (cs := TCube.enc u0) hF rfl pa26 ps26 (hS.bc (i := 1) rfl)) hF (by decide) (fun a hF => ?_)
    obtain ⟨x7, hx8, h⟩ := bindS h
    refine sq_call hF pc64 rfl (by decide) (ok_ref01_Plain k (hS.enter trivial) hx8) (fun v W hR a hF => ?_)
    obtain ⟨rfl, hT9⟩ := hR
    have hS := hS.grow hT9.below
    refine sq_val (v_move hF rfl) hF (by decide) (fun a hF => ?_)
    obtain ⟨x11, h, hk13⟩ := bindS h
    refine sq_cut 3 (fun a W => FH 43 [(42, .bool x11)] a ∧ St M w0 [⟨b2, TCube.enc u1, 26⟩, ⟨b1, TCube.enc u0, 26⟩] [] [] W) (fun a W hJ => ?_) ?_
    ·
      have h := hk13
      obtain ⟨hF, hS⟩ := hJ
      refine sq_val (v_assign hF rfl) hF (by decide) (fun a hF => ?_)
      refine sq_nil ?_
      refine then_n ?_
      refine wp_ret ?_
      obtain rfl := Option.some.inj h
      exact ret1 hF rfl (rv_tmp hF rfl) ⟨_, rfl, rfl, (hS.keep (List.nil_sublist _) (List.Sublist.refl _) trivial)⟩
    ·
      by_cases he10 : x7 = true
      ·
        replace h := ifT he10 h
        refine sq_yes hF rfl rfl he10 ?_
        refine sq_val (v_load (cs := TCube.enc u1) hF rfl pa26 ps26 (hS.bc (i := 0) rfl)) hF (by decide) (fun a hF => ?_)
        refine sq_yes hF rfl rfl he10 ?_
        obtain ⟨x14, hx15, h⟩ := bindS h
        refine sq_call hF pc64 rfl (by decide) (ok_ref01_Plain k (hS.enter trivial) hx15) (fun v W hR a hF => ?_)
        obtain ⟨rfl, hT16⟩ := hR
        have hS := hS.grow hT16.below
        refine sq_val (v_pick_t hF rfl he10 rfl) hF (by decide) (fun a hF => ?_)
        obtain rfl := Option.some.inj h
        exact sq_nil (then_j ⟨(hF.keep ⟨rfl, trivial⟩), hS⟩)
      ·
        have he10 : x7 = false := nB he10
        replace h := ifF he10 h
        refine sq_no hF rfl rfl he10 (by rintro x ⟨⟩; decide) (fun a hF => ?_)
        refine sq_no hF rfl rfl he10 (by rintro x ⟨⟩; decide) (fun a hF => ?_)
        refine sq_val (v_pick_f hF rfl he10 rfl) hF (by decide) (fun a hF => ?_)
        obtain rfl := Option.some.inj h
        exact sq_nil (then_j ⟨(hF.keep ⟨rfl, trivial⟩), hS⟩)
  ·
    refine wp_block ?_
    refine wp_loop_fuel (I := fun m a W => ∃ (x4 : Int), FH 43 [(2, .pointer (some (⟨b1, 0, none⟩))), (3, .pointer (some (⟨b2, 0, none⟩))), (5, .int .i64 (x4))] a ∧ St M w0 [⟨b2, TCube.enc u1, 26⟩, ⟨b1, TCube.enc u0, 26⟩] [] [] W ∧ (ref01_Within.l0 k u0 u1 m x4) = some o5) ?_ (k := k) ⟨0, (hF.keep ⟨rfl, rfl, rfl, trivial⟩), hS, h⟩
    rintro m17 a W ⟨x4, hF, hS, h⟩
    cases m17 with
    | zero => cases h
    | succ m17 =>
      rw [ref01_Within.l0] at h
      refine wp_seq ?_
      refine wp_seq ?_
      refine wp_reg ?_
      refine sq_val (v_move hF rfl) hF (by decide) (fun a hF => ?_)
      refine sq_val (v_lss hF rfl rfl) hF (by decide) (fun a hF => ?_)
      refine sq_nil ?_
      refine then_n ?_
      refine wp_if hF rfl (fun he18 => ?_) (fun he18 => ?_)
      ·
        replace h := ifT he18 h
        refine wp_skip ?_
        refine then_n ?_
        refine wp_seq ?_
        refine wp_block ?_
        refine wp_seq ?_
        refine wp_quiet rfl (by kernel_rfl) hS ?_
        refine qt_val (fun W hC => (v_move hF rfl)) hF (by decide) (fun a hF => ?_)
        refine qt_val (fun W hC => (v_fieldAddr hF rfl pf26_1)) hF (by decide) (fun a hF => ?_)
        obtain ⟨hb19, h⟩ := ifS h
        refine qt_val (fun W hC => (v_indexAddr hF rfl rfl par24 hb19.1 hb19.2)) hF (by decide) (fun a hF => ?_)
        refine qt_val (fun W hC => (v_load1 hF rfl pa22 (cells_sub (vs := [.int .u64 ((u1.Care.at x4))]) (hC.2.bc (i := 0) rfl) (add_add _ _ _) (TCube.get_Care u1 x4 hb19.1 hb19.2)))) hF (by decide) (fun a hF => ?_)
        refine qt_val (fun W hC => (v_move hF rfl)) hF (by decide) (fun a hF => ?_)
        refine qt_val (fun W hC => (v_fieldAddr hF rfl pf26_1)) hF (by decide) (fun a hF => ?_)
        refine qt_val (fun W hC => (v_indexAddr hF rfl rfl par24 hb19.1 hb19.2)) hF (by decide) (fun a hF => ?_)
        refine qt_val (fun W hC => (v_load1 hF rfl pa22 (cells_sub (vs := [.int .u64 ((u0.Care.at x4))]) (hC.2.bc (i := 1) rfl) (add_add _ _ _) (TCube.get_Care u0 x4 hb19.1 hb19.2)))) hF (by decide) (fun a hF => ?_)
        refine qt_val (fun W hC => (v_andNot hF rfl rfl)) hF (by decide) (fun a hF => ?_)
        refine qt_val (fun W hC => (v_neq hF rfl rfl)) hF (by decide) (fun a hF => ?_)
        refine qt_val (fun W hC => (v_move hF rfl)) hF (by decide) (fun a hF => ?_)
        refine qt_cut 16 (fun a => FH 43 [(2, .pointer (some (⟨b1, 0, none⟩))), (3, .pointer (some (⟨b2, 0, none⟩))), (5, .int .i64 (x4)), (36, .bool (((bAndNot .u64 (u1.Care.at x4) (u0.Care.at x4)) != 0) || ((bAnd .u64 (bXor .u64 (u0.Value.at x4) (u1.Value.at x4)) (u1.Care.at x4)) != 0)))] a) (fun a hF => ?_) ?_
        ·
          refine qt_nil ?_
          intro W hC
          have hS := hC.2
          refine then_n ?_
          refine wp_if hF rfl (fun he21 => ?_) (fun he21 => ?_)
          ·
            replace h := ifT he21 h
            refine wp_seq ?_
            refine wp_reg ?_
            refine sq_val (v_assign hF rfl) hF (by decide) (fun a hF => ?_)
            refine sq_nil ?_
            refine then_n ?_
            refine wp_ret ?_
            refine blk_r ?_
            refine then_r ?_
            refine then_r ?_
            refine blk_r ?_
            refine then_r ?_
            refine then_r ?_
            obtain rfl := Option.some.inj h
            have h := hk6
            dsimp only at h
            obtain rfl := Option.some.inj h
            exact ret1 hF rfl (rv_tmp hF rfl) ⟨_, rfl, rfl, (hS.keep (List.nil_sublist _) (List.Sublist.refl _) trivial)⟩
          ·
            replace h := ifF he21 h
            refine wp_skip ?_
            refine blk_n ?_
            refine then_n ?_
            refine wp_reg ?_
            refine sq_val (v_move hF rfl) hF (by decide) (fun a hF => ?_)
            refine sq_val (v_add hF rfl rfl) hF (by decide) (fun a hF => ?_)
            refine sq_val (v_assign hF rfl) hF (by decide) (fun a hF => ?_)
            refine sq_nil ?_
            exact then_j ⟨m17, Nat.lt_succ_self _, (IntKind.i64.wrap (x4 + 1)), (hF.keep ⟨rfl, rfl, rfl, trivial⟩), hS, h⟩
        ·
          by_cases he20 : ((bAndNot .u64 (u1.Care.at x4) (u0.Care.at x4)) != 0) = true
          ·
            refine qt_no hF rfl rfl he20 (by decide) (fun a hF => ?_)
            refine qt_no hF rfl rfl he20 (by decide) (fun a hF => ?_)
            refine qt_no hF rfl rfl he20 (by decide) (fun a hF => ?_)
            refine qt_no hF rfl rfl he20 (by decide) (fun a hF => ?_)
            refine qt_no hF rfl rfl he20 (by decide) (fun a hF => ?_)
            refine qt_no hF rfl rfl he20 (by decide) (fun a hF => ?_)
            refine qt_no hF rfl rfl he20 (by decide) (fun a hF => ?_)
            refine qt_no hF rfl rfl he20 (by decide) (fun a hF => ?_)
            refine qt_no hF rfl rfl he20 (by decide) (fun a hF => ?_)
            refine qt_no hF rfl rfl he20 (by decide) (fun a hF => ?_)
            refine qt_no hF rfl rfl he20 (by decide) (fun a hF => ?_)
            refine qt_no hF rfl rfl he20 (by decide) (fun a hF => ?_)
            refine qt_no hF rfl rfl he20 (by decide) (fun a hF => ?_)
            refine qt_no hF rfl rfl he20 (by decide) (fun a hF => ?_)
            refine qt_no hF rfl rfl he20 (by decide) (fun a hF => ?_)
            refine qt_val (fun W hC => (v_pick_t hF rfl he20 rfl)) hF (by decide) (fun a hF => ?_)
            exact qt_nil (hF.keep ⟨rfl, rfl, rfl, (boolV (or_t he20)), trivial⟩)
          ·
            have he20 : ((bAndNot .u64 (u1.Care.at x4) (u0.Care.at x4)) != 0) = false := nB he20
            refine qt_yes hF rfl rfl he20 ?_
            refine qt_val (fun W hC => (v_move hF rfl)) hF (by decide) (fun a hF => ?_)
            refine qt_yes hF rfl rfl he20 ?_
            refine qt_val (fun W hC => (v_fieldAddr hF rfl pf26_0)) hF (by decide) (fun a hF => ?_)
            refine qt_yes hF rfl rfl he20 ?_
            refine qt_val (fun W hC => (v_indexAddr hF rfl rfl par24 hb19.1 hb19.2)) hF (by decide) (fun a hF => ?_)
            refine qt_yes hF rfl rfl he20 ?_
            refine qt_val (fun W hC => (v_load1 hF rfl pa22 (cells_sub (vs := [.int .u64 ((u0.Value.at x4))]) (hC.2.bc (i := 1) rfl) (add_add _ _ _) (TCube.get_Value u0 x4 hb19.1 hb19.2)))) hF (by decide) (fun a hF => ?_)
            refine qt_yes hF rfl rfl he20 ?_
            refine qt_val (fun W hC => (v_move hF rfl)) hF (by decide) (fun a hF => ?_)
            refine qt_yes hF rfl rfl he20 ?_
            refine qt_val (fun W hC => (v_fieldAddr hF rfl pf26_0)) hF (by decide) (fun a hF => ?_)
            refine qt_yes hF rfl rfl he20 ?_
            refine qt_val (fun W hC => (v_indexAddr hF rfl rfl par24 hb19.1 hb19.2)) hF (by decide) (fun a hF => ?_)
            refine qt_yes hF rfl rfl he20 ?_
            refine qt_val (fun W hC => (v_load1 hF rfl pa22 (cells_sub (vs := [.int .u64 ((u1.Value.at x4))]) (hC.2.bc (i := 0) rfl) (add_add _ _ _) (TCube.get_Value u1 x4 hb19.1 hb19.2)))) hF (by decide) (fun a hF => ?_)
            refine qt_yes hF rfl rfl he20 ?_
            refine qt_val (fun W hC => (v_xor hF rfl rfl)) hF (by decide) (fun a hF => ?_)
            refine qt_yes hF rfl rfl he20 ?_
            refine qt_val (fun W hC => (v_move hF rfl)) hF (by decide) (fun a hF => ?_)
            refine qt_yes hF rfl rfl he20 ?_
            refine qt_val (fun W hC => (v_fieldAddr hF rfl pf26_1)) hF (by decide) (fun a hF => ?_)
            refine qt_yes hF rfl rfl he20 ?_
            refine qt_val (fun W hC => (v_indexAddr hF rfl rfl par24 hb19.1 hb19.2)) hF (by decide) (fun a hF => ?_)
            refine qt_yes hF rfl rfl he20 ?_
            refine qt_val (fun W hC => (v_load1 hF rfl pa22 (cells_sub (vs := [.int .u64 ((u1.Care.at x4))]) (hC.2.bc (i := 0) rfl) (add_add _ _ _) (TCube.get_Care u1 x4 hb19.1 hb19.2)))) hF (by decide) (fun a hF => ?_)
            refine qt_yes hF rfl rfl he20 ?_
            refine qt_val (fun W hC => (v_and hF rfl rfl)) hF (by decide) (fun a hF => ?_)
            refine qt_yes hF rfl rfl he20 ?_
            refine qt_val (fun W hC => (v_neq hF rfl rfl)) hF (by decide) (fun a hF => ?_)
            refine qt_val (fun W hC => (v_pick_f hF rfl he20 rfl)) hF (by decide) (fun a hF => ?_)
            exact qt_nil (hF.keep ⟨rfl, rfl, rfl, (boolV (or_f he20)), trivial⟩)
      ·
        replace h := ifF he18 h
        refine wp_exit ?_
        refine then_x ?_
        refine then_x ?_
        refine blk_hit ?_
        obtain rfl := Option.some.inj h
        exact then_j ⟨rfl, (hF.keep ⟨rfl, rfl, trivial⟩), hS⟩

theorem ok_ref01_Less (k : Nat) {M : Nat → Prop} {w0 : World} {u0 : TCube} {u1 : TCube} {o : (List TCube)} (hS : St M w0 [] [] [] w0) (h : ref01_Less k u0 u1 = some o) :
    Calls Try.prog 22 #[.agg (TCube.enc u0).toArray, .agg (TCube.enc u1).toArray] w0 fun e W' => ∃ v, e = .returned v ∧ (∃ (A88 : Option Addr) (c89 : Nat), v = .slice A88 (o).length c89 ∧ St M w0 [] [⟨k_TCube, 26, A88, c89, o⟩] [] W') := by
  unfold ref01_Less at h
  refine calls_start (args := [.agg (TCube.enc u0).toArray, .agg (TCube.enc u1).toArray]) Try.func22 rfl rfl (Nat.le_of_ble_eq_true rfl) (fun a hF => ?_)
  refine wp_seq ?_
  refine wp_reg ?_
  refine sq_box hF hS rfl rfl (by decide) (fun b1 a W hF hS => ?_)
  refine sq_box hF hS rfl rfl (by decide) (fun b2 a W hF hS => ?_)
  refine sq_val (v_assign hF rfl) hF (by decide) (fun a hF => ?_)
  refine sq_nil ?_
  refine then_n ?_
  refine wp_seq ?_
  refine wp_reg ?_
  refine sq_val (v_load (cs := TCube.enc u0) hF rfl pa26 ps26 (hS.bc (i := 1) rfl)) hF (by decide) (fun a hF => ?_)
  obtain ⟨x3, hx4, h⟩ := bindS h
  refine sq_call hF pc55 rfl (by decide) (ok_ref01_Text k (hS.enter trivial) hx4) (fun v W hR a hF => ?_)
  obtain ⟨rfl, hT5⟩ := hR
  have hS := hS.grow hT5.below
  refine sq_val (v_move hF rfl) hF (by decide) (fun a hF => ?_)
  refine sq_val (v_extract hF rfl rfl) hF (by decide) (fun a hF => ?_)
  refine sq_val (v_extract hF rfl rfl) hF (by decide) (fun a hF => ?_)
  refine sq_val (v_assign hF rfl) hF (by decide) (fun a hF => ?_)
  refine sq_val (v_assign hF rfl) hF (by decide) (fun a hF => ?_)
  refine sq_nil ?_
  refine then_n ?_
  refine wp_seq ?_
  refine wp_reg ?_
  refine sq_val (v_load (cs := TCube.enc u1) hF rfl pa26 ps26 (hS.bc (i := 0) rfl)) hF (by decide) (fun a hF => ?_)
  obtain ⟨x6, hx7, h⟩ := bindS h
  refine sq_call hF pc55 rfl (by decide) (ok_ref01_Text k (hS.enter trivial) hx7) (fun v W hR a hF => ?_)
  obtain ⟨rfl, hT8⟩ := hR
  have hS := hS.grow hT8.below
  refine sq_val (v_move hF rfl) hF (by decide) (fun a hF => ?_)
  refine sq_val (v_extract hF rfl rfl) hF (by decide) (fun a hF => ?_)
  refine sq_val (v_extract hF rfl rfl) hF (by decide) (fun a hF => ?_)
  refine sq_val (v_assign hF rfl) hF (by decide) (fun a hF => ?_)
  refine sq_val (v_assign hF rfl) hF (by decide) (fun a hF => ?_)
  refine sq_nil ?_
  refine then_n ?_
  refine wp_seq ?_
  refine wp_seq ?_
  refine wp_reg ?_
  refine sq_val (v_move hF rfl) hF (by decide) (fun a hF => ?_)
  refine sq_val (v_not hF rfl) hF (by decide) (fun a hF => ?_)
  refine sq_val (v_move hF rfl) hF (by decide) (fun a hF => ?_)
  refine sq_cut 3 (fun a W => FH 78 [(2, .pointer (some (⟨b1, 0, none⟩))), (3, .pointer (some (⟨b2, 0, none⟩))), (5, .string (x3.1)), (7, .string (x6.1)), (29, .bool ((!x3.2) || (!x6.2)))] a ∧ St M w0 [⟨b2, TCube.enc u1, 26⟩, ⟨b1, TCube.enc u0, 26⟩] [] [] W) (fun a W hJ => ?_) ?_
  ·
    obtain ⟨hF, hS⟩ := hJ
    refine sq_nil ?_
    refine then_n ?_
    refine wp_if hF rfl (fun he10 => ?_) (fun he10 => ?_)
    ·
      replace h := ifT he10 h
      refine wp_seq ?_
      refine wp_reg ?_
      refine sq_val (v_assign hF rfl) hF (by decide) (fun a hF => ?_)
      refine sq_nil ?_
      refine then_n ?_
      refine wp_ret ?_
      refine then_r ?_
      have hS := hS.addNil k_TCube 26
      obtain rfl := Option.some.inj h
      exact ret1 hF rfl (rv_tmp hF rfl) ⟨_, rfl, none, 0, rfl, (hS.keep (List.nil_sublist _) (List.Sublist.refl _) trivial)⟩
    ·
      replace h := ifF he10 h
      refine wp_skip ?_
      refine then_n ?_
      refine wp_seq ?_
      refine wp_reg ?_
      refine sq_val (v_load (cs := TCube.enc u0) hF rfl pa26 ps26 (hS.bc (i := 1) rfl)) hF (by decide) (fun a hF => ?_)
      refine sq_val (v_load (cs := TCube.enc u1) hF rfl pa26 ps26 (hS.bc (i := 0) rfl)) hF (by decide) (fun a hF => ?_)
      obtain ⟨x11, hx12, h⟩ := bindS h
      refine sq_call hF pc13 rfl (by decide) (ok_ref01_Meet k (hS.enter trivial) hx12) (fun v W hR a hF => ?_)
      obtain ⟨rfl, hT13⟩ := hR
      have hS := hS.grow hT13.below
      refine sq_val (v_move hF rfl) hF (by decide) (fun a hF => ?_)
      refine sq_val (v_extract hF rfl rfl) hF (by decide) (fun a hF => ?_)
      refine sq_val (v_extract hF rfl rfl) hF (by decide) (fun a hF => ?_)
      refine sq_alloc hF hS pz26 rfl (by decide) (fun b14 a W hF hS => ?_)
      refine sq_store (o := 0) (vs := TCube.enc x11.1) (cs' := TCube.enc x11.1) hF hS rfl rfl (i := 0) rfl rfl rfl ps26 (TCube.enc_one _) (Nat.le_of_ble_eq_true rfl) rfl (fun W hS => ?_)
      refine sq_val (v_assign hF rfl) hF (by decide) (fun a hF => ?_)
      refine sq_nil ?_
      refine then_n ?_
      refine wp_seq ?_
      refine wp_seq ?_
      refine wp_reg ?_
      refine sq_val (v_move hF rfl) hF (by decide) (fun a hF => ?_)
      refine sq_val (v_not hF rfl) hF (by decide) (fun a hF => ?_)
      refine sq_nil ?_
      refine then_n ?_
      refine wp_if hF rfl (fun he15 => ?_) (fun he15 => ?_)
      ·
        replace h := ifT he15 h
        refine wp_seq ?_
        refine wp_reg ?_
        refine sq_val (v_load (cs := TCube.enc u0) hF rfl pa26 ps26 (hS.bc (i := 2) rfl)) hF (by decide) (fun a hF => ?_)
        refine sq_buildSlice (κ := k_TCube) (xs := [.tmp 38]) (ys := [u0]) hF hS rfl rfl rfl (Els.cons rfl (Els.nil _ _ _)) rfl psl29 pz26 rfl (by decide) (by decide) (by decide) (fun A16 c17 a W hF hS => ?_)
        refine sq_val (v_assign hF rfl) hF (by decide) (fun a hF => ?_)
        refine sq_nil ?_
        refine then_n ?_
        refine wp_ret ?_
        refine then_r ?_
        obtain rfl := Option.some.inj h
        exact ret1 hF rfl (rv_tmp hF rfl) ⟨_, rfl, A16, c17, rfl, (hS.keep (List.nil_sublist _) (List.Sublist.refl _) trivial)⟩
      ·
        replace h := ifF he15 h
        refine wp_skip ?_
        refine then_n ?_
        refine wp_seq ?_
        refine wp_reg ?_
        refine sq_val (v_assign hF rfl) hF (by decide) (fun a hF => ?_)
        refine sq_nil ?_
        refine then_n ?_
        refine wp_seq ?_
        refine wp_reg ?_
        refine sq_val (v_move hF rfl) hF (by decide) (fun a hF => ?_)
        obtain ⟨x18, hx19, h⟩ := bindS h
        refine sq_toBytes hF hS rfl pu9 pu82 pu5 hx19 (by decide) (fun A20 c21 a W hF hS => ?_)
        refine sq_val (v_assign hF rfl) hF (by decide) (fun a hF => ?_)
        refine sq_nil ?_
        refine then_n ?_
        refine wp_seq ?_
        refine wp_seq ?_
        refine wp_reg ?_
        refine sq_val (v_assign hF rfl) hF (by decide) (fun a hF => ?_)
        refine sq_nil ?_
        refine then_n ?_
        obtain ⟨o43, h, hk44⟩ := bindS h
        refine wp_join (fun a W => ∃ (x40 : List TCube) (A41 : Option Addr) (c42 : Nat), x40 = o43 ∧ FH 78 [(11, .slice A41 (x40).length c42)] a ∧ St M w0 [] [⟨k_TCube, 26, A41, c42, x40⟩] [] W) (fun a W hJ => ?_) ?_
        ·
          obtain ⟨x40, A41, c42, rfl, hF, hS⟩ := hJ
          have h := hk44
          refine then_n ?_
          refine wp_seq ?_
          refine wp_reg ?_
          refine sq_val (v_move hF rfl) hF (by decide) (fun a hF => ?_)
          refine sq_val (v_assign hF rfl) hF (by decide) (fun a hF => ?_)
          refine sq_nil ?_
          refine then_n ?_
          refine wp_ret ?_
          obtain rfl := Option.some.inj h
          exact ret1 hF rfl (rv_tmp hF rfl) ⟨_, rfl, A41, c42, rfl, hS⟩
        ·
          have hS := hS.addNil k_TCube 26
          refine wp_block ?_
          refine wp_loop_fuel (I := fun m a W => ∃ (x33 : List TCube) (x36 : List Int) (x39 : Int) (A34 : Option Addr) (c35 : Nat) (A37 : Option Addr) (c38 : Nat), FH 78 [(5, .string (x3.1)), (7, .string (x6.1)), (11, .slice A34 (x33).length c35), (12, .slice A37 (x36).length c38), (13, .int .i64 (x39))] a ∧ St M w0 [] [⟨k_TCube, 26, A34, c35, x33⟩, ⟨(kInt .u8), 5, A37, c38, x36⟩] [] W ∧ (ref01_Less.l0 k x3 x6 m x33 x36 x39) = some o43) ?_ (k := k) ⟨([]), x18, 0, none, 0, A20, c21, (hF.keep ⟨rfl, rfl, rfl, rfl, rfl, trivial⟩), (hS.keep (List.nil_sublist _) (List.Sublist.refl _) trivial), h⟩
          rintro m45 a W ⟨x33, x36, x39, A34, c35, A37, c38, hF, hS, h⟩
          cases m45 with
          | zero => cases h
          | succ m45 =>
            rw [ref01_Less.l0] at h
            refine wp_seq ?_
            refine wp_seq ?_
            refine wp_reg ?_
            refine sq_val (v_move hF rfl) hF (by decide) (fun a hF => ?_)
            refine sq_val (v_move hF rfl) hF (by decide) (fun a hF => ?_)
            refine sq_val (v_lenS hF rfl pu9) hF (by decide) (fun a hF => ?_)
            refine sq_val (v_lss hF rfl rfl) hF (by decide) (fun a hF => ?_)
            refine sq_nil ?_
            refine then_n ?_
            refine wp_if hF rfl (fun he46 => ?_) (fun he46 => ?_)
            ·
              replace h := ifT he46 h
              refine wp_skip ?_
              refine then_n ?_
              refine wp_seq ?_
              obtain ⟨o53, h, hk54⟩ := bindS h
              refine wp_join (fun a W => ∃ (x47 : List TCube) (x50 : List Int) (A48 : Option Addr) (c49 : Nat) (A51 : Option Addr) (c52 : Nat), (x47, x50) = o53 ∧ FH 78 [(5, .string (x3.1)), (7, .string (x6.1)), (11, .slice A48 (x47).length c49), (12, .slice A51 (x50).length c52), (13, .int .i64 (x39))] a ∧ St M w0 [] [⟨k_TCube, 26, A48, c49, x47⟩, ⟨(kInt .u8), 5, A51, c52, x50⟩] [] W) (fun a W hJ => ?_) ?_
              ·
                obtain ⟨x47, x50, A48, c49, A51, c52, rfl, hF, hS⟩ := hJ
                have h := hk54
                dsimp only at h
                refine then_n ?_
                refine wp_reg ?_
                refine sq_val (v_move hF rfl) hF (by decide) (fun a hF => ?_)
                refine sq_val (v_add hF rfl rfl) hF (by decide) (fun a hF => ?_)
                refine sq_val (v_assign hF rfl) hF (by decide) (fun a hF => ?_)
                refine sq_nil ?_
                exact then_j ⟨m45, Nat.lt_succ_self _, x47, x50, (IntKind.i64.wrap (x39 + 1)), A48, c49, A51, c52, (hF.keep ⟨rfl, rfl, rfl, rfl, rfl, trivial⟩), hS, h⟩
              ·
                refine wp_block ?_
                refine wp_seq ?_
                refine wp_seq ?_
                refine wp_reg ?_
                refine sq_val (v_move hF rfl) hF (by decide) (fun a hF => ?_)
                refine sq_val (v_move hF rfl) hF (by decide) (fun a hF => ?_)
                obtain ⟨hb55, h⟩ := ifS h
                refine sq_val (v_indexStr hF rfl rfl pu9 hb55.1 hb55.2) hF (by decide) (fun a hF => ?_)
                refine sq_val (v_neq hF rfl rfl) hF (by decide) (fun a hF => ?_)
                refine sq_val (v_move hF rfl) hF (by decide) (fun a hF => ?_)
                obtain ⟨x57, h, hk59⟩ := bindS h
                refine sq_cut 5 (fun a W => FH 78 [(5, .string (x3.1)), (7, .string (x6.1)), (11, .slice A34 (x33).length c35), (12, .slice A37 (x36).length c38), (13, .int .i64 (x39)), (57, .bool x57)] a ∧ St M w0 [] [⟨k_TCube, 26, A34, c35, x33⟩, ⟨(kInt .u8), 5, A37, c38, x36⟩] [] W) (fun a W hJ => ?_) ?_
                ·
                  have h := hk59
                  obtain ⟨hF, hS⟩ := hJ
                  refine sq_nil ?_
                  refine then_n ?_
                  refine wp_if hF rfl (fun he61 => ?_) (fun he61 => ?_)
                  ·
                    replace h := ifT he61 h
                    refine wp_exit ?_
                    refine then_x ?_
                    refine blk_hit ?_
                    obtain rfl := Option.some.inj h
                    exact then_j ⟨x33, x36, A34, c35, A37, c38, rfl, (hF.keep ⟨rfl, rfl, rfl, rfl, rfl, trivial⟩), hS⟩
                  ·
                    replace h := ifF he61 h
                    refine wp_skip ?_
                    refine then_n ?_
                    refine wp_seq ?_
                    refine wp_reg ?_
                    refine sq_val (v_move hF rfl) hF (by decide) (fun a hF => ?_)
                    refine sq_val (v_move hF rfl) hF (by decide) (fun a hF => ?_)
                    refine sq_val (v_move hF rfl) hF (by decide) (fun a hF => ?_)
                    refine sq_val (v_move hF rfl) hF (by decide) (fun a hF => ?_)
                    obtain ⟨hb62, h⟩ := ifS h
                    refine sq_val (v_indexStr hF rfl rfl pu9 hb62.1 hb62.2) hF (by decide) (fun a hF => ?_)
                    refine sq_val (v_sub hF rfl rfl) hF (by decide) (fun a hF => ?_)
                    obtain ⟨x63, hx64, h⟩ := bindS h
                    obtain ⟨p65, cs66, hA67, hc69, hr70⟩ := Row.ok.at (hS.rw_ (i := 1) rfl) hx64
                    obtain rfl : cs66 = [.int .u8 (x63)] := hr70
                    refine sq_val (v_idx hF rfl hA67 rfl psl82 hx64) hF (by decide) (fun a hF => ?_)
                    refine sq_storeEl hF hS (i := 1) rfl hA67 rfl hx64 rfl rfl ps5 rfl (fun W hS => ?_)
                    have hF : FH 78 [(5, .string (x3.1)), (7, .string (x6.1)), (11, .slice A34 (x33).length c35), (12, .slice A37 ((x36.set x39.toNat (IntKind.u8.wrap (97 - (byteAt x6.1 x39))))).length c38), (13, .int .i64 (x39)), (57, .bool (x57)), (58, .slice A37 ((x36.set x39.toNat (IntKind.u8.wrap (97 - (byteAt x6.1 x39))))).length c38), (59, .int .i64 (x39)), (60, .string (x6.1)), (61, .int .i64 (x39)), (62, .int .u8 ((byteAt x6.1 x39))), (63, .int .u8 ((IntKind.u8.wrap (97 - (byteAt x6.1 x39)))))] a := (hF.keep ⟨rfl, rfl, rfl, (by simp only [List.length_set] <;> rfl), rfl, rfl, (by simp only [List.length_set] <;> rfl), rfl, rfl, rfl, rfl, rfl, trivial⟩)
                    refine sq_nil ?_
                    refine then_n ?_
                    refine wp_seq ?_
                    refine wp_reg ?_
                    refine sq_val (v_move hF rfl) hF (by decide) (fun a hF => ?_)
                    refine sq_val (v_move hF rfl) hF (by decide) (fun a hF => ?_)
                    refine sq_val (v_toStr hF rfl (hS.rw_ (i := 1) rfl).src pu82 pu5 pu9) hF (by decide) (fun a hF => ?_)
                    obtain ⟨x71, hx72, h⟩ := bindS h
                    refine sq_call hF pc56 rfl (by decide) (ok_ref01_From k (hS.enter trivial) hx72) (fun v W hR a hF => ?_)
                    obtain ⟨rfl, hT73⟩ := hR
                    have hS := hS.grow hT73.below
                    refine sq_buildSlice (κ := k_TCube) (xs := [.tmp 68]) (ys := [x71]) hF hS rfl rfl rfl (Els.cons rfl (Els.nil _ _ _)) rfl psl29 pz26 rfl (by decide) (by decide) (by decide) (fun A74 c75 a W hF hS => ?_)
                    obtain ⟨x76, hx77, h⟩ := bindS h
                    refine sq_append (ys := ([x71])) hF hS (i := 1) rfl rfl rfl (hS.rw_ (i := 0) rfl).src psl29 pb26 pz26 rfl (by decide) (by decide) hx77 (by decide) (fun A78 c79 a W hF hS => ?_)
                    refine sq_val (v_assign hF rfl) hF (by decide) (fun a hF => ?_)
                    refine sq_nil ?_
                    refine then_n ?_
                    refine wp_reg ?_
                    refine sq_val (v_move hF rfl) hF (by decide) (fun a hF => ?_)
                    refine sq_val (v_move hF rfl) hF (by decide) (fun a hF => ?_)
                    refine sq_val (v_move hF rfl) hF (by decide) (fun a hF => ?_)
                    refine sq_val (v_move hF rfl) hF (by decide) (fun a hF => ?_)
                    refine sq_val (v_indexStr hF rfl rfl pu9 hb62.1 hb62.2) hF (by decide) (fun a hF => ?_)
                    obtain ⟨x80, hx81, h⟩ := bindS h
                    obtain ⟨p82, cs83, hA84, hc86, hr87⟩ := Row.ok.at (hS.rw_ (i := 2) rfl) hx81
                    obtain rfl : cs83 = [.int .u8 (x80)] := hr87
                    refine sq_val (v_idx hF rfl hA84 rfl psl82 hx81) hF (by decide) (fun a hF => ?_)
                    refine sq_storeEl hF hS (i := 2) rfl hA84 rfl hx81 rfl rfl ps5 rfl (fun W hS => ?_)
                    have hF : FH 78 [(5, .string (x3.1)), (7, .string (x6.1)), (11, .slice A78 (x76).length c79), (12, .slice A37 (((x36.set x39.toNat (IntKind.u8.wrap (97 - (byteAt x6.1 x39)))).set x39.toNat (byteAt x6.1 x39))).length c38), (13, .int .i64 (x39)), (57, .bool (x57)), (58, .slice A37 (((x36.set x39.toNat (IntKind.u8.wrap (97 - (byteAt x6.1 x39)))).set x39.toNat (byteAt x6.1 x39))).length c38), (59, .int .i64 (x39)), (60, .string (x6.1)), (61, .int .i64 (x39)), (62, .int .u8 ((byteAt x6.1 x39))), (63, .int .u8 ((IntKind.u8.wrap (97 - (byteAt x6.1 x39))))), (66, .slice A37 (((x36.set x39.toNat (IntKind.u8.wrap (97 - (byteAt x6.1 x39)))).set x39.toNat (byteAt x6.1 x39))).length c38), (67, .string ((strOfNums (x36.set x39.toNat (IntKind.u8.wrap (97 - (byteAt x6.1 x39))))))), (68, .agg (TCube.enc x71).toArray), (69, .slice A74 ([x71]).length c75), (70, .slice A78 (x76).length c79), (71, .slice A37 (((x36.set x39.toNat (IntKind.u8.wrap (97 - (byteAt x6.1 x39)))).set x39.toNat (byteAt x6.1 x39))).length c38), (72, .int .i64 (x39)), (73, .string (x6.1)), (74, .int .i64 (x39)), (75, .int .u8 ((byteAt x6.1 x39)))] a := (hF.keep ⟨rfl, rfl, rfl, (by simp only [List.length_set] <;> rfl), rfl, rfl, (by simp only [List.length_set] <;> rfl), rfl, rfl, rfl, rfl, rfl, (by simp only [List.length_set] <;> rfl), rfl, rfl, rfl, rfl, (by simp only [List.length_set] <;> rfl), rfl, rfl, rfl, rfl, trivial⟩)
                    refine sq_nil ?_
                    refine blk_n ?_
                    obtain rfl := Option.some.inj h
                    exact then_j ⟨x76, ((x36.set x39.toNat (IntKind.u8.wrap (97 - (byteAt x6.1 x39)))).set x39.toNat (byteAt x6.1 x39)), A78, c79, A37, c38, rfl, (hF.keep ⟨rfl, rfl, rfl, rfl, rfl, trivial⟩), (hS.keep (List.Sublist.refl _) (.cons _ (List.Sublist.refl _)) trivial)⟩
                ·
                  by_cases he56 : ((byteAt x3.1 x39) != 120) = true
                  ·
                    replace h := ifT he56 h
                    refine sq_no hF rfl rfl he56 (by rintro x ⟨⟩; decide) (fun a hF => ?_)
                    refine sq_no hF rfl rfl he56 (by rintro x ⟨⟩; decide) (fun a hF => ?_)
                    refine sq_no hF rfl rfl he56 (by rintro x ⟨⟩; decide) (fun a hF => ?_)
                    refine sq_no hF rfl rfl he56 (by rintro x ⟨⟩; decide) (fun a hF => ?_)
                    refine sq_val (v_pick_t hF rfl he56 rfl) hF (by decide) (fun a hF => ?_)
                    obtain rfl := Option.some.inj h
                    exact sq_nil (then_j ⟨(hF.keep ⟨rfl, rfl, rfl, rfl, rfl, rfl, trivial⟩), hS⟩)
                  ·
                    have he56 : ((byteAt x3.1 x39) != 120) = false := nB he56
                    replace h := ifF he56 h
                    refine sq_yes hF rfl rfl he56 ?_
                    refine sq_val (v_move hF rfl) hF (by decide) (fun a hF => ?_)
                    refine sq_yes hF rfl rfl he56 ?_
                    refine sq_val (v_move hF rfl) hF (by decide) (fun a hF => ?_)
                    refine sq_yes hF rfl rfl he56 ?_
                    obtain ⟨hb60, h⟩ := ifS h
                    refine sq_val (v_indexStr hF rfl rfl pu9 hb60.1 hb60.2) hF (by decide) (fun a hF => ?_)
                    refine sq_yes hF rfl rfl he56 ?_
                    refine sq_val (v_eql hF rfl rfl) hF (by decide) (fun a hF => ?_)
                    refine sq_val (v_pick_f hF rfl he56 rfl) hF (by decide) (fun a hF => ?_)
                    obtain rfl := Option.some.inj h
                    exact sq_nil (then_j ⟨(hF.keep ⟨rfl, rfl, rfl, rfl, rfl, rfl, trivial⟩), hS⟩)
            ·
              replace h := ifF he46 h
              refine wp_exit ?_
              refine then_x ?_
              refine then_x ?_
              refine blk_hit ?_
              obtain rfl := Option.some.inj h
              exact then_j ⟨x33, A34, c35, rfl, (hF.keep ⟨rfl, trivial⟩), (hS.keep (List.Sublist.refl _) (.cons_cons _ (List.nil_sublist _)) trivial)⟩
  ·
    by_cases he9 : (!x3.2) = true
    ·
      refine sq_no hF rfl rfl he9 (by rintro x ⟨⟩; decide) (fun a hF => ?_)
      refine sq_no hF rfl rfl he9 (by rintro x ⟨⟩; decide) (fun a hF => ?_)
      refine sq_val (v_pick_t hF rfl he9 rfl) hF (by decide) (fun a hF => ?_)
      exact sq_nil (then_j ⟨(hF.keep ⟨rfl, rfl, rfl, rfl, (boolV (or_t he9)), trivial⟩), hS⟩)
    ·
      have he9 : (!x3.2) = false := nB he9
      refine sq_yes hF rfl rfl he9 ?_
      refine sq_val (v_move hF rfl) hF (by decide) (fun a hF => ?_)
      refine sq_yes hF rfl rfl he9 ?_
      refine sq_val (v_not hF rfl) hF (by decide) (fun a hF => ?_)
      refine sq_val (v_pick_f hF rfl he9 rfl) hF (by decide) (fun a hF => ?_)
      exact sq_nil (then_j ⟨(hF.keep ⟨rfl, rfl, rfl, rfl, (boolV (or_f he9)), trivial⟩), hS⟩)

theorem ok_ref01_SameCubes (k : Nat) {M : Nat → Prop} {w0 : World} {u0 : List TCube} {A0_0 : Option Addr} {c0_0 : Nat} {u1 : List TCube} {A1_0 : Option Addr} {c1_0 : Nat} {o : Bool} (hS : St M w0 [] [] [fSl k_TCube A0_0 c0_0 u0, fSl k_TCube A1_0 c1_0 u1] w0) (h : ref01_SameCubes k u0 u1 = some o) :
    Calls Try.prog 21 #[.slice A0_0 (u0).length c0_0, .slice A1_0 (u1).length c1_0] w0 fun e W' => ∃ v, e = .returned v ∧ (v = .bool (o) ∧ St M w0 [] [] [] W') := by
  unfold ref01_SameCubes at h
  refine calls_start (args := [.slice A0_0 (u0).length c0_0, .slice A1_0 (u1).length c1_0]) Try.func21 rfl rfl (Nat.le_of_ble_eq_true rfl) (fun a hF => ?_)
  refine wp_seq ?_
  refine wp_reg ?_
  refine sq_val (v_assign hF rfl) hF (by decide) (fun a hF => ?_)
  refine sq_nil ?_
  refine then_n ?_
  refine wp_seq ?_
  refine wp_seq ?_
  refine wp_reg ?_
  refine sq_val (v_move hF rfl) hF (by decide) (fun a hF => ?_)
  refine sq_val (v_len hF rfl pu29) hF (by decide) (fun a hF => ?_)
  refine sq_val (v_move hF rfl) hF (by decide) (fun a hF => ?_)
  refine sq_val (v_len hF rfl pu29) hF (by decide) (fun a hF => ?_)
  refine sq_val (v_neq hF rfl rfl) hF (by decide) (fun a hF => ?_)
  refine sq_nil ?_
  refine then_n ?_
  refine wp_if hF rfl (fun he1 => ?_) (fun he1 => ?_)
  ·
    replace h := ifT he1 h
    refine wp_seq ?_
    refine wp_reg ?_
    refine sq_val (v_assign hF rfl) hF (by decide) (fun a hF => ?_)
    refine sq_nil ?_
    refine then_n ?_
    refine wp_ret ?_
    refine then_r ?_
    obtain rfl := Option.some.inj h
    exact ret1 hF rfl (rv_tmp hF rfl) ⟨_, rfl, rfl, (hS.keep (List.Sublist.refl _) (List.Sublist.refl _) trivial)⟩
  ·
    replace h := ifF he1 h
    refine wp_skip ?_
    refine then_n ?_
    refine wp_seq ?_
    refine wp_seq ?_
    refine wp_reg ?_
    refine sq_val (v_assign hF rfl) hF (by decide) (fun a hF => ?_)
    refine sq_nil ?_
    refine then_n ?_
    obtain ⟨o4, h, hk5⟩ := bindS h
    refine wp_join (fun a W => Lo.brk () = o4 ∧ FH 26 [] a ∧ St M w0 [] [] [] W) (fun a W hJ => ?_) ?_
    ·
      obtain ⟨rfl, hF, hS⟩ := hJ
      have h := hk5
      dsimp only at h
      refine then_n ?_
      refine wp_seq ?_
      refine wp_reg ?_
      refine sq_val (v_assign hF rfl) hF (by decide) (fun a hF => ?_)
      refine sq_nil ?_
      refine then_n ?_
      refine wp_ret ?_
      obtain rfl := Option.some.inj h
      exact ret1 hF rfl (rv_tmp hF rfl) ⟨_, rfl, rfl, hS⟩
    ·
      refine wp_block ?_
      refine wp_loop_fuel (I := fun m a W => ∃ (x3 : Int), FH 26 [(0, .slice A0_0 (u0).length c0_0), (1, .slice A1_0 (u1).length c1_0), (5, .int .i64 (x3))] a ∧ St M w0 [] [] [fSl k_TCube A0_0 c0_0 u0, fSl k_TCube A1_0 c1_0 u1] W ∧ (ref01_SameCubes.l0 k u0 u1 m x3) = some o4) ?_ (k := k) ⟨0, (hF.keep ⟨rfl, rfl, rfl, trivial⟩), hS, h⟩
      rintro m6 a W ⟨x3, hF, hS, h⟩
      cases m6 with
      | zero => cases h
      | succ m6 =>
        rw [ref01_SameCubes.l0] at h
        refine wp_seq ?_
        refine wp_seq ?_
        refine wp_reg ?_
        refine sq_val (v_move hF rfl) hF (by decide) (fun a hF => ?_)
        refine sq_val (v_move hF rfl) hF (by decide) (fun a hF => ?_)
        refine sq_val (v_len hF rfl pu29) hF (by decide) (fun a hF => ?_)
        refine sq_val (v_lss hF rfl rfl) hF (by decide) (fun a hF => ?_)
        refine sq_nil ?_
        refine then_n ?_
        refine wp_if hF rfl (fun he7 => ?_) (fun he7 => ?_)
        ·
          replace h := ifT he7 h
          refine wp_skip ?_
          refine then_n ?_
          refine wp_seq ?_
          refine wp_block ?_
          refine wp_seq ?_
          refine wp_quiet rfl (by kernel_rfl) hS ?_
          refine qt_val (fun W hC => (v_move hF rfl)) hF (by decide) (fun a hF => ?_)
          refine qt_val (fun W hC => (v_move hF rfl)) hF (by decide) (fun a hF => ?_)
          obtain ⟨x8, hx9, h⟩ := bindS h
          obtain ⟨p10, cs11, hA12, hat13⟩ := SlR.at (hS.fc (i := 0) rfl) hx9
          obtain rfl : cs11 = TCube.enc x8 := hat13.2.2.2
          refine qt_val (fun W hC => (v_idx hF rfl hA12 rfl psl29 hx9)) hF (by decide) (fun a hF => ?_)
          refine qt_val (fun W hC => (v_load (cs := TCube.enc x8) hF rfl pa26 ps26 (hat13.2.2.1.grow hC.1))) hF (by decide) (fun a hF => ?_)
          refine qt_val (fun W hC => (v_move hF rfl)) hF (by decide) (fun a hF => ?_)
          refine qt_val (fun W hC => (v_move hF rfl)) hF (by decide) (fun a hF => ?_)
          obtain ⟨x14, hx15, h⟩ := bindS h
          obtain ⟨p16, cs17, hA18, hat19⟩ := SlR.at (hS.fc (i := 1) rfl) hx15
          obtain rfl : cs17 = TCube.enc x14 := hat19.2.2.2
          refine qt_val (fun W hC => (v_idx hF rfl hA18 rfl psl29 hx15)) hF (by decide) (fun a hF => ?_)
          refine qt_val (fun W hC => (v_load (cs := TCube.enc x14) hF rfl pa26 ps26 (hat19.2.2.1.grow hC.1))) hF (by decide) (fun a hF => ?_)
          refine qt_val (fun W hC => (eq26 hF rfl rfl).2) hF (by decide) (fun a hF => ?_)
          refine qt_nil ?_
          intro W hC
          have hS := hC.2
          refine then_n ?_
          refine wp_if hF rfl (fun he20 => ?_) (fun he20 => ?_)
          ·
            replace h := ifT he20 h
            refine wp_seq ?_
            refine wp_reg ?_
            refine sq_val (v_assign hF rfl) hF (by decide) (fun a hF => ?_)
            refine sq_nil ?_
            refine then_n ?_
            refine wp_ret ?_
            refine blk_r ?_
            refine then_r ?_
            refine then_r ?_
            refine blk_r ?_
            refine then_r ?_
            refine then_r ?_
            obtain rfl := Option.some.inj h
            have h := hk5
            dsimp only at h
            obtain rfl := Option.some.inj h
            exact ret1 hF rfl (rv_tmp hF rfl) ⟨_, rfl, rfl, (hS.keep (List.Sublist.refl _) (List.Sublist.refl _) trivial)⟩
          ·
            replace h := ifF he20 h
            refine wp_skip ?_
            refine blk_n ?_
            refine then_n ?_
            refine wp_reg ?_
            refine sq_val (v_move hF rfl) hF (by decide) (fun a hF => ?_)
            refine sq_val (v_add hF rfl rfl) hF (by decide) (fun a hF => ?_)
            refine sq_val (v_assign hF rfl) hF (by decide) (fun a hF => ?_)
            refine sq_nil ?_
            exact then_j ⟨m6, Nat.lt_succ_self _, (IntKind.i64.wrap (x3 + 1)), (hF.keep ⟨rfl, rfl, rfl, trivial⟩), hS, h⟩
        ·
          replace h := ifF he7 h
          refine wp_exit ?_
          refine then_x ?_
          refine then_x ?_
          refine blk_hit ?_
          obtain rfl := Option.some.inj h
          exact then_j ⟨rfl, (hF.keep trivial), (hS.keep (List.Sublist.refl _) (List.Sublist.refl _) trivial)⟩
end Go.Proofs.Ytangebngeeamoaa
