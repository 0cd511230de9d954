/- What calls of the Go functions come to. -/
import Derived.Test.YtangebngeeamoaaW12
set_option linter.unusedVariables false
set_option linter.unusedSimpArgs false
set_option maxRecDepth 100000
set_option maxHeartbeats 4000000
namespace Go.Proofs.Ytangebngeeamoaa
open Go.RowKit Go.Pod
theorem ok_ref01_Plain (k : Nat) {M : Nat → Prop} {w0 : World} {u0 : TCube} {o : Bool} (hS : St M w0 [] [] [] w0) (h : ref01_Plain k u0 = some o) :
    Calls Try.prog 64 #[.agg (TCube.enc u0).toArray] w0 fun e W' => ∃ v, e = .returned v ∧ (v = .bool (o) ∧ St M w0 [] [] [] W') := by
  unfold ref01_Plain at h
  refine calls_start (args := [.agg (TCube.enc u0).toArray]) Try.func64 rfl rfl (Nat.le_of_ble_eq_true rfl) (fun a hF => ?_)
  refine wp_seq ?_
  refine wp_reg ?_
  refine sq_box hF hS rfl rfl (by decide) (fun b1 a W hF hS => ?_)
  refine sq_val (v_assign hF rfl) hF (by decide) (fun a hF => ?_)
  refine sq_nil ?_
  refine then_n ?_
  refine wp_seq ?_
  refine wp_seq ?_
  refine wp_reg ?_
  refine sq_val (v_assign hF rfl) hF (by decide) (fun a hF => ?_)
  refine sq_nil ?_
  refine then_n ?_
  obtain ⟨o4, h, hk5⟩ := bindS h
  refine wp_join (fun a W => Lo.brk () = o4 ∧ FH 21 [(1, .pointer (some (⟨b1, 0, none⟩)))] a ∧ St M w0 [⟨b1, TCube.enc u0, 26⟩] [] [] W) (fun a W hJ => ?_) ?_
  ·
   obtain ⟨rfl, hF, hS⟩ := hJ
   have h := hk5
   dsimp only at h
   refine then_n ?_
   refine wp_seq ?_
   refine wp_reg ?_
   refine sq_val (v_fieldAddr hF rfl pf26_1) hF (by decide) (fun a hF => ?_)
   refine sq_val (v_load (cs := A12u64.enc u0.Care) hF rfl pa24 ps24 (cells_sub (vs := A12u64.enc u0.Care) (hS.bc (i := 0) rfl) rfl rfl)) hF (by decide) (fun a hF => ?_)
   obtain ⟨x6, hx7, h⟩ := bindS h
   refine sq_call hF pc61 rfl (by decide) (ok_ref01_Head k (hS.enter trivial) hx7) (fun v W hR a hF => ?_)
   obtain ⟨rfl, hT8⟩ := hR
   have hS := hS.grow hT8.below
   refine sq_val (v_assign hF rfl) hF (by decide) (fun a hF => ?_)
   refine sq_nil ?_
   refine then_n ?_
   refine wp_ret ?_
   obtain rfl := Option.some.inj h
   exact ret1 hF rfl (rv_tmp hF rfl) ⟨_, rfl, rfl, (hS.keep (List.nil_sublist _) (List.Sublist.refl _) trivial)⟩
  ·
   refine wp_block ?_
   refine wp_loop_fuel (I := fun m a W => ∃ (x3 : Int), FH 21 [(1, .pointer (some (⟨b1, 0, none⟩))), (3, .int .i64 (x3))] a ∧ St M w0 [⟨b1, TCube.enc u0, 26⟩] [] [] W ∧ (ref01_Plain.l0 k u0 m x3) = some o4) ?_ (k := k) ⟨0, (hF.keep ⟨rfl, rfl, trivial⟩), hS, h⟩
   rintro m9 a W ⟨x3, hF, hS, h⟩
   cases m9 with
   | zero => cases h
   | succ m9 =>
    rw [ref01_Plain.l0] at h
    refine wp_seq ?_
    refine wp_seq ?_
    refine wp_reg ?_
    refine sq_val (v_move hF rfl) hF (by decide) (fun a hF => ?_)
    refine sq_val (v_lss hF rfl rfl) hF (by decide) (fun a hF => ?_)
    refine sq_nil ?_
    refine then_n ?_
    refine wp_if hF rfl (fun he10 => ?_) (fun he10 => ?_)
    ·
     replace h := ifT he10 h
     refine wp_skip ?_
     refine then_n ?_
     refine wp_seq ?_
     refine wp_block ?_
     refine wp_seq ?_
     refine wp_quiet rfl (by kernel_rfl) hS ?_
     refine qt_val (fun W hC => (v_move hF rfl)) hF (by decide) (fun a hF => ?_)
     refine qt_val (fun W hC => (v_fieldAddr hF rfl pf26_0)) hF (by decide) (fun a hF => ?_)
     obtain ⟨hb11, h⟩ := ifS h
     refine qt_val (fun W hC => (v_indexAddr hF rfl rfl par24 hb11.1 hb11.2)) hF (by decide) (fun a hF => ?_)
     refine qt_val (fun W hC => (v_load1 hF rfl pa22 (cells_sub (vs := [.int .u64 ((u0.Value.at x3))]) (hC.2.bc (i := 0) rfl) (add_add _ _ _) (TCube.get_Value u0 x3 hb11.1 hb11.2)))) hF (by decide) (fun a hF => ?_)
     refine qt_val (fun W hC => (v_move hF rfl)) hF (by decide) (fun a hF => ?_)
     refine qt_val (fun W hC => (v_fieldAddr hF rfl pf26_1)) hF (by decide) (fun a hF => ?_)
     refine qt_val (fun W hC => (v_indexAddr hF rfl rfl par24 hb11.1 hb11.2)) hF (by decide) (fun a hF => ?_)
     refine qt_val (fun W hC => (v_load1 hF rfl pa22 (cells_sub (vs := [.int .u64 ((u0.Care.at x3))]) (hC.2.bc (i := 0) rfl) (add_add _ _ _) (TCube.get_Care u0 x3 hb11.1 hb11.2)))) hF (by decide) (fun a hF => ?_)
     refine qt_val (fun W hC => (v_andNot hF rfl rfl)) hF (by decide) (fun a hF => ?_)
     refine qt_val (fun W hC => (v_neq hF rfl rfl)) hF (by decide) (fun a hF => ?_)
     refine qt_nil ?_
     intro W hC
     have hS := hC.2
     refine then_n ?_
     refine wp_if hF rfl (fun he12 => ?_) (fun he12 => ?_)
     ·
      replace h := ifT he12 h
      refine wp_seq ?_
      refine wp_reg ?_
      refine sq_val (v_assign hF rfl) hF (by decide) (fun a hF => ?_)
      refine sq_nil ?_
      refine then_n ?_
      refine wp_ret ?_
      refine blk_r ?_
      refine then_r ?_
      refine then_r ?_
      refine blk_r ?_
      refine then_r ?_
      refine then_r ?_
      obtain rfl := Option.some.inj h
      have h := hk5
      dsimp only at h
      obtain rfl := Option.some.inj h
      exact ret1 hF rfl (rv_tmp hF rfl) ⟨_, rfl, rfl, (hS.keep (List.nil_sublist _) (List.Sublist.refl _) trivial)⟩
     ·
      replace h := ifF he12 h
      refine wp_skip ?_
      refine blk_n ?_
      refine then_n ?_
      refine wp_reg ?_
      refine sq_val (v_move hF rfl) hF (by decide) (fun a hF => ?_)
      refine sq_val (v_add hF rfl rfl) hF (by decide) (fun a hF => ?_)
      refine sq_val (v_assign hF rfl) hF (by decide) (fun a hF => ?_)
      refine sq_nil ?_
      exact then_j ⟨m9, Nat.lt_succ_self _, (IntKind.i64.wrap (x3 + 1)), (hF.keep ⟨rfl, rfl, trivial⟩), hS, h⟩
    ·
     replace h := ifF he10 h
     refine wp_exit ?_
     refine then_x ?_
     refine then_x ?_
     refine blk_hit ?_
     obtain rfl := Option.some.inj h
     exact then_j ⟨rfl, (hF.keep ⟨rfl, trivial⟩), hS⟩

theorem ok_ref01_Within (k : Nat) {M : Nat → Prop} {w0 : World} {u0 : TCube} {u1 : TCube} {o : Bool} (hS : St M w0 [] [] [] w0) (h : ref01_Within k u0 u1 = some o) :
    Calls Try.prog 20 #[.agg (TCube.enc u0).toArray, .agg (TCube.enc u1).toArray] w0 fun e W' => ∃ v, e = .returned v ∧ (v = .bool (o) ∧ St M w0 [] [] [] W') := by
  unfold ref01_Within at h
  refine calls_start (args := [.agg (TCube.enc u0).toArray, .agg (TCube.enc u1).toArray]) Try.func20 rfl rfl (Nat.le_of_ble_eq_true rfl) (fun a hF => ?_)
  refine wp_seq ?_
  refine wp_reg ?_
  refine sq_box hF hS rfl rfl (by decide) (fun b1 a W hF hS => ?_)
  refine sq_box hF hS rfl rfl (by decide) (fun b2 a W hF hS => ?_)
  refine sq_val (v_assign hF rfl) hF (by decide) (fun a hF => ?_)
  refine sq_nil ?_
  refine then_n ?_
  refine wp_seq ?_
  refine wp_seq ?_
  refine wp_reg ?_
  refine sq_val (v_assign hF rfl) hF (by decide) (fun a hF => ?_)
  refine sq_nil ?_
  refine then_n ?_
  obtain ⟨o5, h, hk6⟩ := bindS h
  refine wp_join (fun a W => Lo.brk () = o5 ∧ FH 43 [(2, .pointer (some (⟨b1, 0, none⟩))), (3, .pointer (some (⟨b2, 0, none⟩)))] a ∧ St M w0 [⟨b2, TCube.enc u1, 26⟩, ⟨b1, TCube.enc u0, 26⟩] [] [] W) (fun a W hJ => ?_) ?_
  ·
   obtain ⟨rfl, hF, hS⟩ := hJ
   have h := hk6
   dsimp only at h
   refine then_n ?_
   refine wp_seq ?_
   refine wp_reg ?_
   refine sq_val (v_load (cs := TCube.enc u0) hF rfl pa26 ps26 (hS.bc (i := 1) rfl)) hF (by decide) (fun a hF => ?_)
   obtain ⟨x7, hx8, h⟩ := bindS h
   refine sq_call hF pc64 rfl (by decide) (ok_ref01_Plain k (hS.enter trivial) hx8) (fun v W hR a hF => ?_)
   obtain ⟨rfl, hT9⟩ := hR
   have hS := hS.grow hT9.below
   refine sq_val (v_move hF rfl) hF (by decide) (fun a hF => ?_)
   obtain ⟨x11, h, hk13⟩ := bindS h
   refine sq_cut 3 (fun a W => FH 43 [(42, .bool x11)] a ∧ St M w0 [⟨b2, TCube.enc u1, 26⟩, ⟨b1, TCube.enc u0, 26⟩] [] [] W) (fun a W hJ => ?_) ?_
   ·
    have h := hk13
    obtain ⟨hF, hS⟩ := hJ
    refine sq_val (v_assign hF rfl) hF (by decide) (fun a hF => ?_)
    refine sq_nil ?_
    refine then_n ?_
    refine wp_ret ?_
    obtain rfl := Option.some.inj h
    exact ret1 hF rfl (rv_tmp hF rfl) ⟨_, rfl, rfl, (hS.keep (List.nil_sublist _) (List.Sublist.refl _) trivial)⟩
   ·
    by_cases he10 : x7 = true
    ·
     replace h := ifT he10 h
     refine sq_yes hF rfl rfl he10 ?_
     refine sq_val (v_load (cs := TCube.enc u1) hF rfl pa26 ps26 (hS.bc (i := 0) rfl)) hF (by decide) (fun a hF => ?_)
     refine sq_yes hF rfl rfl he10 ?_
     obtain ⟨x14, hx15, h⟩ := bindS h
     refine sq_call hF pc64 rfl (by decide) (ok_ref01_Plain k (hS.enter trivial) hx15) (fun v W hR a hF => ?_)
     obtain ⟨rfl, hT16⟩ := hR
     have hS := hS.grow hT16.below
     refine sq_val (v_pick_t hF rfl he10 rfl) hF (by decide) (fun a hF => ?_)
     obtain rfl := Option.some.inj h
     exact sq_nil (then_j ⟨(hF.keep ⟨rfl, trivial⟩), hS⟩)
    ·
     have he10 : x7 = false := nB he10
     replace h := ifF he10 h
     refine sq_no hF rfl rfl he10 (by rintro x ⟨⟩; decide) (fun a hF => ?_)
     refine sq_no hF rfl rfl he10 (by rintro x ⟨⟩; decide) (fun a hF => ?_)
     refine sq_val (v_pick_f hF rfl he10 rfl) hF (by decide) (fun a hF => ?_)
     obtain rfl := Option.some.inj h
     exact sq_nil (then_j ⟨(hF.keep ⟨rfl, trivial⟩), hS⟩)
  ·
   refine wp_block ?_
   refine wp_loop_fuel (I := fun m a W => ∃ (x4 : Int), FH 43 [(2, .pointer (some (⟨b1, 0, none⟩))), (3, .pointer (some (⟨b2, 0, none⟩))), (5, .int .i64 (x4))] a ∧ St M w0 [⟨b2, TCube.enc u1, 26⟩, ⟨b1, TCube.enc u0, 26⟩] [] [] W ∧ (ref01_Within.l0 k u0 u1 m x4) = some o5) ?_ (k := k) ⟨0, (hF.keep ⟨rfl, rfl, rfl, trivial⟩), hS, h⟩
   rintro m17 a W ⟨x4, hF, hS, h⟩
   cases m17 with
   | zero => cases h
   | succ m17 =>
    rw [ref01_Within.l0] at h
    refine wp_seq ?_
    refine wp_seq ?_
    refine wp_reg ?_
    refine sq_val (v_move hF rfl) hF (by decide) (fun a hF => ?_)
    refine sq_val (v_lss hF rfl rfl) hF (by decide) (fun a hF => ?_)
    refine sq_nil ?_
    refine then_n ?_
    refine wp_if hF rfl (fun he18 => ?_) (fun he18 => ?_)
    ·
     replace h := ifT he18 h
     refine wp_skip ?_
     refine then_n ?_
     refine wp_seq ?_
     refine wp_block ?_
     refine wp_seq ?_
     refine wp_quiet rfl (by kernel_rfl) hS ?_
     refine qt_val (fun W hC => (v_move hF rfl)) hF (by decide) (fun a hF => ?_)
     refine qt_val (fun W hC => (v_fieldAddr hF rfl pf26_1)) hF (by decide) (fun a hF => ?_)
     obtain ⟨hb19, h⟩ := ifS h
     refine qt_val (fun W hC => (v_indexAddr hF rfl rfl par24 hb19.1 hb19.2)) hF (by decide) (fun a hF => ?_)
     refine qt_val (fun W hC => (v_load1 hF rfl pa22 (cells_sub (vs := [.int .u64 ((u1.Care.at x4))]) (hC.2.bc (i := 0) rfl) (add_add _ _ _) (TCube.get_Care u1 x4 hb19.1 hb19.2)))) hF (by decide) (fun a hF => ?_)
     refine qt_val (fun W hC => (v_move hF rfl)) hF (by decide) (fun a hF => ?_)
     refine qt_val (fun W hC => (v_fieldAddr hF rfl pf26_1)) hF (by decide) (fun a hF => ?_)
     refine qt_val (fun W hC => (v_indexAddr hF rfl rfl par24 hb19.1 hb19.2)) hF (by decide) (fun a hF => ?_)
     refine qt_val (fun W hC => (v_load1 hF rfl pa22 (cells_sub (vs := [.int .u64 ((u0.Care.at x4))]) (hC.2.bc (i := 1) rfl) (add_add _ _ _) (TCube.get_Care u0 x4 hb19.1 hb19.2)))) hF (by decide) (fun a hF => ?_)
     refine qt_val (fun W hC => (v_andNot hF rfl rfl)) hF (by decide) (fun a hF => ?_)
     refine qt_val (fun W hC => (v_neq hF rfl rfl)) hF (by decide) (fun a hF => ?_)
     refine qt_val (fun W hC => (v_move hF rfl)) hF (by decide) (fun a hF => ?_)
     refine qt_cut 16 (fun a => FH 43 [(2, .pointer (some (⟨b1, 0, none⟩))), (3, .pointer (some (⟨b2, 0, none⟩))), (5, .int .i64 (x4)), (36, .bool (((bAndNot .u64 (u1.Care.at x4) (u0.Care.at x4)) != 0) || ((bAnd .u64 (bXor .u64 (u0.Value.at x4) (u1.Value.at x4)) (u1.Care.at x4)) != 0)))] a) (fun a hF => ?_) ?_
     ·
      refine qt_nil ?_
      intro W hC
      have hS := hC.2
      refine then_n ?_
      refine wp_if hF rfl (fun he21 => ?_) (fun he21 => ?_)
      ·
       replace h := ifT he21 h
       refine wp_seq ?_
       refine wp_reg ?_
       refine sq_val (v_assign hF rfl) hF (by decide) (fun a hF => ?_)
       refine sq_nil ?_
       refine then_n ?_
       refine wp_ret ?_
       refine blk_r ?_
       refine then_r ?_
       refine then_r ?_
       refine blk_r ?_
       refine then_r ?_
       refine then_r ?_
       obtain rfl := Option.some.inj h
       have h := hk6
       dsimp only at h
       obtain rfl := Option.some.inj h
       exact ret1 hF rfl (rv_tmp hF rfl) ⟨_, rfl, rfl, (hS.keep (List.nil_sublist _) (List.Sublist.refl _) trivial)⟩
      ·
       replace h := ifF he21 h
       refine wp_skip ?_
       refine blk_n ?_
       refine then_n ?_
       refine wp_reg ?_
       refine sq_val (v_move hF rfl) hF (by decide) (fun a hF => ?_)
       refine sq_val (v_add hF rfl rfl) hF (by decide) (fun a hF => ?_)
       refine sq_val (v_assign hF rfl) hF (by decide) (fun a hF => ?_)
       refine sq_nil ?_
       exact then_j ⟨m17, Nat.lt_succ_self _, (IntKind.i64.wrap (x4 + 1)), (hF.keep ⟨rfl, rfl, rfl, trivial⟩), hS, h⟩
     ·
      by_cases he20 : ((bAndNot .u64 (u1.Care.at x4) (u0.Care.at x4)) != 0) = true
      ·
       refine qt_no hF rfl rfl he20 (by decide) (fun a hF => ?_)
       refine qt_no hF rfl rfl he20 (by decide) (fun a hF => ?_)
       refine qt_no hF rfl rfl he20 (by decide) (fun a hF => ?_)
       refine qt_no hF rfl rfl he20 (by decide) (fun a hF => ?_)
       refine qt_no hF rfl rfl he20 (by decide) (fun a hF => ?_)
       refine qt_no hF rfl rfl he20 (by decide) (fun a hF => ?_)
       refine qt_no hF rfl rfl he20 (by decide) (fun a hF => ?_)
       refine qt_no hF rfl rfl he20 (by decide) (fun a hF => ?_)
       refine qt_no hF rfl rfl he20 (by decide) (fun a hF => ?_)
       refine qt_no hF rfl rfl he20 (by decide) (fun a hF => ?_)
       refine qt_no hF rfl rfl he20 (by decide) (fun a hF => ?_)
       refine qt_no hF rfl rfl he20 (by decide) (fun a hF => ?_)
       refine qt_no hF rfl rfl he20 (by decide) (fun a hF => ?_)
       refine qt_no hF rfl rfl he20 (by decide) (fun a hF => ?_)
       refine qt_no hF rfl rfl he20 (by decide) (fun a hF => ?_)
       refine qt_val (fun W hC => (v_pick_t hF rfl he20 rfl)) hF (by decide) (fun a hF => ?_)
       exact qt_nil (hF.keep ⟨rfl, rfl, rfl, (boolV (or_t he20)), trivial⟩)
      ·
       have he20 : ((bAndNot .u64 (u1.Care.at x4) (u0.Care.at x4)) != 0) = false := nB he20
       refine qt_yes hF rfl rfl he20 ?_
       refine qt_val (fun W hC => (v_move hF rfl)) hF (by decide) (fun a hF => ?_)
       refine qt_yes hF rfl rfl he20 ?_
       refine qt_val (fun W hC => (v_fieldAddr hF rfl pf26_0)) hF (by decide) (fun a hF => ?_)
       refine qt_yes hF rfl rfl he20 ?_
       refine qt_val (fun W hC => (v_indexAddr hF rfl rfl par24 hb19.1 hb19.2)) hF (by decide) (fun a hF => ?_)
       refine qt_yes hF rfl rfl he20 ?_
       refine qt_val (fun W hC => (v_load1 hF rfl pa22 (cells_sub (vs := [.int .u64 ((u0.Value.at x4))]) (hC.2.bc (i := 1) rfl) (add_add _ _ _) (TCube.get_Value u0 x4 hb19.1 hb19.2)))) hF (by decide) (fun a hF => ?_)
       refine qt_yes hF rfl rfl he20 ?_
       refine qt_val (fun W hC => (v_move hF rfl)) hF (by decide) (fun a hF => ?_)
       refine qt_yes hF rfl rfl he20 ?_
       refine qt_val (fun W hC => (v_fieldAddr hF rfl pf26_0)) hF (by decide) (fun a hF => ?_)
       refine qt_yes hF rfl rfl he20 ?_
       refine qt_val (fun W hC => (v_indexAddr hF rfl rfl par24 hb19.1 hb19.2)) hF (by decide) (fun a hF => ?_)
       refine qt_yes hF rfl rfl he20 ?_
       refine qt_val (fun W hC => (v_load1 hF rfl pa22 (cells_sub (vs := [.int .u64 ((u1.Value.at x4))]) (hC.2.bc (i := 0) rfl) (add_add _ _ _) (TCube.get_Value u1 x4 hb19.1 hb19.2)))) hF (by decide) (fun a hF => ?_)
       refine qt_yes hF rfl rfl he20 ?_
       refine qt_val (fun W hC => (v_xor hF rfl rfl)) hF (by decide) (fun a hF => ?_)
       refine qt_yes hF rfl rfl he20 ?_
       refine qt_val (fun W hC => (v_move hF rfl)) hF (by decide) (fun a hF => ?_)
       refine qt_yes hF rfl rfl he20 ?_
       refine qt_val (fun W hC => (v_fieldAddr hF rfl pf26_1)) hF (by decide) (fun a hF => ?_)
       refine qt_yes hF rfl rfl he20 ?_
       refine qt_val (fun W hC => (v_indexAddr hF rfl rfl par24 hb19.1 hb19.2)) hF (by decide) (fun a hF => ?_)
       refine qt_yes hF rfl rfl he20 ?_
       refine qt_val (fun W hC => (v_load1 hF rfl pa22 (cells_sub (vs := [.int .u64 ((u1.Care.at x4))]) (hC.2.bc (i := 0) rfl) (add_add _ _ _) (TCube.get_Care u1 x4 hb19.1 hb19.2)))) hF (by decide) (fun a hF => ?_)
       refine qt_yes hF rfl rfl he20 ?_
       refine qt_val (fun W hC => (v_and hF rfl rfl)) hF (by decide) (fun a hF => ?_)
       refine qt_yes hF rfl rfl he20 ?_
       refine qt_val (fun W hC => (v_neq hF rfl rfl)) hF (by decide) (fun a hF => ?_)
       refine qt_val (fun W hC => (v_pick_f hF rfl he20 rfl)) hF (by decide) (fun a hF => ?_)
       exact qt_nil (hF.keep ⟨rfl, rfl, rfl, (boolV (or_f he20)), trivial⟩)
    ·
     replace h := ifF he18 h
     refine wp_exit ?_
     refine then_x ?_
     refine then_x ?_
     refine blk_hit ?_
     obtain rfl := Option.some.inj h
     exact then_j ⟨rfl, (hF.keep ⟨rfl, rfl, trivial⟩), hS⟩

theorem ok_ref04_Touched (k : Nat) {M : Nat → Prop} {w0 : World} {u0 : List TRule} {A0_0 : Option Addr} {c0_0 : Nat} {u1 : TMod} {A1_0 : Option Addr} {c1_0 : Nat} {o : (List Int)} (hS : St M w0 [] [] [fSl k_TRule A0_0 c0_0 u0, fSl k_TAct A1_0 c1_0 u1.Acts] w0) (h : ref04_Touched k u0 u1 = some o) :
    Calls Try.prog 74 #[.slice A0_0 ((u0).length) c0_0, .agg (TMod.enc u1 A1_0 c1_0).toArray] w0 fun e W' => ∃ v, e = .returned v ∧ (∃ (A79 : Option Addr) (c80 : Nat), v = .slice A79 ((o).length) c80 ∧ St M w0 [] [⟨(kInt .i64), 3, A79, c80, o⟩] [] W') := by
  unfold ref04_Touched at h
  refine calls_start (args := [.slice A0_0 ((u0).length) c0_0, .agg (TMod.enc u1 A1_0 c1_0).toArray]) Try.func74 rfl rfl (Nat.le_of_ble_eq_true rfl) (fun a hF => ?_)
  refine wp_seq ?_
  refine wp_reg ?_
  refine sq_box hF hS rfl rfl (by decide) (fun b1 a W hF hS => ?_)
  refine sq_val (v_assign hF rfl) hF (by decide) (fun a hF => ?_)
  refine sq_nil ?_
  refine then_n ?_
  refine wp_seq ?_
  refine wp_reg ?_
  refine sq_val (v_assign hF rfl) hF (by decide) (fun a hF => ?_)
  refine sq_nil ?_
  refine then_n ?_
  refine wp_seq ?_
  refine wp_seq ?_
  refine wp_reg ?_
  refine sq_val (v_assign hF rfl) hF (by decide) (fun a hF => ?_)
  refine sq_nil ?_
  refine then_n ?_
  obtain ⟨o13, h, hk14⟩ := bindS h
  refine wp_join (fun a W => ∃ (x10 : List Int) (A11 : Option Addr) (c12 : Nat), x10 = o13 ∧ FH 65 [(5, .slice A11 ((x10).length) c12)] a ∧ St M w0 [] [⟨(kInt .i64), 3, A11, c12, x10⟩] [] W) (fun a W hJ => ?_) ?_
  ·
   obtain ⟨x10, A11, c12, rfl, hF, hS⟩ := hJ
   have h := hk14
   refine then_n ?_
   refine wp_seq ?_
   refine wp_reg ?_
   refine sq_val (v_move hF rfl) hF (by decide) (fun a hF => ?_)
   refine sq_val (v_assign hF rfl) hF (by decide) (fun a hF => ?_)
   refine sq_nil ?_
   refine then_n ?_
   refine wp_ret ?_
   obtain rfl := Option.some.inj h
   exact ret1 hF rfl (rv_tmp hF rfl) ⟨_, rfl, A11, c12, rfl, hS⟩
  ·
   have hS := hS.addNil (kInt .i64) 3
   refine wp_block ?_
   refine wp_loop_fuel (I := fun m a W => ∃ (x6 : List Int) (x9 : Int) (A7 : Option Addr) (c8 : Nat), FH 65 [(0, .slice A0_0 ((u0).length) c0_0), (3, .pointer (some (⟨b1, 0, none⟩))), (5, .slice A7 ((x6).length) c8), (6, .int .i64 (x9))] a ∧ St M w0 [⟨b1, TMod.enc u1 A1_0 c1_0, 40⟩] [⟨(kInt .i64), 3, A7, c8, x6⟩] [fSl k_TRule A0_0 c0_0 u0, fSl k_TAct A1_0 c1_0 u1.Acts] W ∧ (ref04_Touched.l0 k u0 u1 m x6 x9) = some o13) ?_ (k := k) ⟨([]), 0, none, 0, (hF.keep ⟨rfl, rfl, rfl, rfl, trivial⟩), hS, h⟩
   rintro m15 a W ⟨x6, x9, A7, c8, hF, hS, h⟩
   cases m15 with
   | zero => cases h
   | succ m15 =>
    rw [ref04_Touched.l0] at h
    refine wp_seq ?_
    refine wp_seq ?_
    refine wp_reg ?_
    refine sq_val (v_move hF rfl) hF (by decide) (fun a hF => ?_)
    refine sq_val (v_move hF rfl) hF (by decide) (fun a hF => ?_)
    refine sq_val (v_len hF rfl pu37) hF (by decide) (fun a hF => ?_)
    refine sq_val (v_lss hF rfl rfl) hF (by decide) (fun a hF => ?_)
    refine sq_nil ?_
    refine then_n ?_
    refine wp_if hF rfl (fun he16 => ?_) (fun he16 => ?_)
    ·
     replace h := ifT he16 h
     refine wp_skip ?_
     refine then_n ?_
     refine wp_seq ?_
     obtain ⟨o20, h, hk21⟩ := bindS h
     refine wp_join (fun a W => ∃ (x17 : List Int) (A18 : Option Addr) (c19 : Nat), x17 = o20 ∧ FH 65 [(0, .slice A0_0 ((u0).length) c0_0), (3, .pointer (some (⟨b1, 0, none⟩))), (5, .slice A18 ((x17).length) c19), (6, .int .i64 (x9))] a ∧ St M w0 [⟨b1, TMod.enc u1 A1_0 c1_0, 40⟩] [⟨(kInt .i64), 3, A18, c19, x17⟩] [fSl k_TRule A0_0 c0_0 u0, fSl k_TAct A1_0 c1_0 u1.Acts] W) (fun a W hJ => ?_) ?_
     ·
      obtain ⟨x17, A18, c19, rfl, hF, hS⟩ := hJ
      have h := hk21
      refine then_n ?_
      refine wp_reg ?_
      refine sq_val (v_move hF rfl) hF (by decide) (fun a hF => ?_)
      refine sq_val (v_add hF rfl rfl) hF (by decide) (fun a hF => ?_)
      refine sq_val (v_assign hF rfl) hF (by decide) (fun a hF => ?_)
      refine sq_nil ?_
      exact then_j ⟨m15, Nat.lt_succ_self _, x17, (IntKind.i64.wrap (x9 + 1)), A18, c19, (hF.keep ⟨rfl, rfl, rfl, rfl, trivial⟩), hS, h⟩
     ·
      refine wp_block ?_
      refine wp_seq ?_
      refine wp_reg ?_
      refine sq_val (v_move hF rfl) hF (by decide) (fun a hF => ?_)
      refine sq_val (v_move hF rfl) hF (by decide) (fun a hF => ?_)
      obtain ⟨x22, hx23, h⟩ := bindS h
      obtain ⟨p24, cs25, hA26, hat27⟩ := SlR.at (hS.fc (i := 0) rfl) hx23
      obtain ⟨A28, c29, rfl, hs30⟩ := hat27.2.2.2
      have hS := hS.addFact (f := fAt k_TRule (p24.add (x9.toNat * 32)) (TRule.enc x22 A28 c29) x22) hat27
      have hS := hS.addFact (f := fSl k_TAct A28 c29 x22.Acts) hs30
      refine sq_val (v_idx hF rfl hA26 rfl psl37 hx23) hF (by decide) (fun a hF => ?_)
      refine sq_val (v_load (cs := TRule.enc x22 A28 c29) hF rfl pa65 ps65 (hS.pc (i := 1) rfl)) hF (by decide) (fun a hF => ?_)
      refine sq_alloc hF hS pz65 rfl (by decide) (fun b31 a W hF hS => ?_)
      refine sq_store (o := 0) (vs := TRule.enc x22 A28 c29) (cs' := TRule.enc x22 A28 c29) hF hS rfl rfl (i := 0) rfl rfl rfl ps65 (TRule.enc_one _ _ _) (Nat.le_of_ble_eq_true rfl) rfl (fun W hS => ?_)
      refine sq_nil ?_
      refine then_n ?_
      refine wp_seq ?_
      refine wp_reg ?_
      refine sq_val (v_fieldAddr hF rfl pf65_5) hF (by decide) (fun a hF => ?_)
      refine sq_val (v_load1 hF rfl pa3 (cells_sub (vs := [.int .i64 (x22.Owner)]) (hS.bc (i := 0) rfl) rfl rfl)) hF (by decide) (fun a hF => ?_)
      refine sq_val (v_fieldAddr hF rfl pf40_6) hF (by decide) (fun a hF => ?_)
      refine sq_val (v_load1 hF rfl pa3 (cells_sub (vs := [.int .i64 (u1.Owner)]) (hS.bc (i := 1) rfl) rfl rfl)) hF (by decide) (fun a hF => ?_)
      refine sq_val (v_eql hF rfl rfl) hF (by decide) (fun a hF => ?_)
      refine sq_val (v_assign hF rfl) hF (by decide) (fun a hF => ?_)
      refine sq_nil ?_
      refine then_n ?_
      refine wp_seq ?_
      refine wp_seq ?_
      refine wp_reg ?_
      refine sq_val (v_fieldAddr hF rfl pf40_0) hF (by decide) (fun a hF => ?_)
      refine sq_val (v_load1 hF rfl pa3 (cells_sub (vs := [.int .i64 (u1.Kind)]) (hS.bc (i := 1) rfl) rfl rfl)) hF (by decide) (fun a hF => ?_)
      refine sq_nil ?_
      refine then_n ?_
      obtain ⟨o33, h, hk34⟩ := bindS h
      refine wp_join (fun a W => ∃ (x32 : Bool), x32 = o33 ∧ FH 65 [(0, .slice A0_0 ((u0).length) c0_0), (3, .pointer (some (⟨b1, 0, none⟩))), (5, .slice A7 ((x6).length) c8), (6, .int .i64 (x9)), (8, .bool (x32))] a ∧ St M w0 [⟨b1, TMod.enc u1 A1_0 c1_0, 40⟩] [⟨(kInt .i64), 3, A7, c8, x6⟩] [fSl k_TRule A0_0 c0_0 u0, fSl k_TAct A1_0 c1_0 u1.Acts] W) (fun a W hJ => ?_) ?_
      ·
       obtain ⟨x32, rfl, hF, hS⟩ := hJ
       have h := hk34
       refine then_n ?_
       refine wp_seq ?_
       refine wp_reg ?_
       refine sq_val (v_move hF rfl) hF (by decide) (fun a hF => ?_)
       refine sq_val (v_move hF rfl) hF (by decide) (fun a hF => ?_)
       obtain ⟨x36, h, hk38⟩ := bindS h
       refine sq_cut 3 (fun a W => FH 65 [(0, .slice A0_0 ((u0).length) c0_0), (3, .pointer (some (⟨b1, 0, none⟩))), (5, .slice A7 ((x6).length) c8), (6, .int .i64 (x9)), (59, .bool x36)] a ∧ St M w0 [⟨b1, TMod.enc u1 A1_0 c1_0, 40⟩] [⟨(kInt .i64), 3, A7, c8, x6⟩] [fSl k_TRule A0_0 c0_0 u0, fSl k_TAct A1_0 c1_0 u1.Acts] W) (fun a W hJ => ?_) ?_
       ·
        have h := hk38
        obtain ⟨hF, hS⟩ := hJ
        refine sq_nil ?_
        refine then_n ?_
        obtain ⟨o45, h, hk46⟩ := bindS h
        refine wp_join (fun a W => ∃ (x42 : List Int) (A43 : Option Addr) (c44 : Nat), x42 = o45 ∧ FH 65 [(0, .slice A0_0 ((u0).length) c0_0), (3, .pointer (some (⟨b1, 0, none⟩))), (5, .slice A43 ((x42).length) c44), (6, .int .i64 (x9))] a ∧ St M w0 [⟨b1, TMod.enc u1 A1_0 c1_0, 40⟩] [⟨(kInt .i64), 3, A43, c44, x42⟩] [fSl k_TRule A0_0 c0_0 u0, fSl k_TAct A1_0 c1_0 u1.Acts] W) (fun a W hJ => ?_) ?_
        ·
         obtain ⟨x42, A43, c44, rfl, hF, hS⟩ := hJ
         have h := hk46
         refine blk_n ?_
         obtain rfl := Option.some.inj h
         exact then_j ⟨x42, A43, c44, rfl, (hF.keep ⟨rfl, rfl, rfl, rfl, trivial⟩), hS⟩
        ·
         refine wp_if hF rfl (fun he47 => ?_) (fun he47 => ?_)
         ·
          replace h := ifT he47 h
          refine wp_reg ?_
          refine sq_val (v_move hF rfl) hF (by decide) (fun a hF => ?_)
          refine sq_val (v_move hF rfl) hF (by decide) (fun a hF => ?_)
          refine sq_buildSlice (κ := (kInt .i64)) (xs := [.tmp 61]) (ys := [x9]) hF hS rfl rfl rfl (Els.cons rfl (Els.nil _ _ _)) rfl psl76 pz3 rfl (by decide) (by decide) (by decide) (fun A48 c49 a W hF hS => ?_)
          obtain ⟨x52, hx53, h⟩ := bindS h
          refine sq_append (ys := ([x9])) hF hS (i := 1) rfl rfl rfl (hS.rw_ (i := 0) rfl).src psl76 pb3 pz3 rfl (by decide) (by decide) hx53 (by decide) (fun A50 c51 a W hF hS => ?_)
          refine sq_val (v_assign hF rfl) hF (by decide) (fun a hF => ?_)
          refine sq_nil ?_
          obtain rfl := Option.some.inj h
          exact then_j ⟨x52, A50, c51, rfl, (hF.keep ⟨rfl, rfl, rfl, rfl, trivial⟩), (hS.keep (List.Sublist.refl _) (.cons _ (List.Sublist.refl _)) ⟨⟨0, rfl⟩, ⟨1, rfl⟩, trivial⟩)⟩
         ·
          replace h := ifF he47 h
          refine wp_skip ?_
          obtain rfl := Option.some.inj h
          exact then_j ⟨x6, A7, c8, rfl, (hF.keep ⟨rfl, rfl, rfl, rfl, trivial⟩), hS⟩
       ·
        by_cases he35 : x32 = true
        ·
         replace h := ifT he35 h
         refine sq_yes hF rfl rfl he35 ?_
         refine sq_val (v_load (cs := TMod.enc u1 A1_0 c1_0) hF rfl pa40 ps40 (hS.bc (i := 0) rfl)) hF (by decide) (fun a hF => ?_)
         refine sq_yes hF rfl rfl he35 ?_
         obtain ⟨x39, hx40, h⟩ := bindS h
         refine sq_call hF pc28 rfl (by decide) (ok_ref04_Mod k (hS.enter ⟨⟨1, rfl⟩, trivial⟩) hx40) (fun v W hR a hF => ?_)
         obtain ⟨rfl, hT41⟩ := hR
         have hS := hS.grow hT41.below
         refine sq_val (v_pick_t hF rfl he35 rfl) hF (by decide) (fun a hF => ?_)
         obtain rfl := Option.some.inj h
         exact sq_nil (then_j ⟨(hF.keep ⟨rfl, rfl, rfl, rfl, rfl, trivial⟩), hS⟩)
        ·
         have he35 : x32 = false := nB he35
         replace h := ifF he35 h
         refine sq_no hF rfl rfl he35 (by rintro x ⟨⟩; decide) (fun a hF => ?_)
         refine sq_no hF rfl rfl he35 (by rintro x ⟨⟩; decide) (fun a hF => ?_)
         refine sq_val (v_pick_f hF rfl he35 rfl) hF (by decide) (fun a hF => ?_)
         obtain rfl := Option.some.inj h
         exact sq_nil (then_j ⟨(hF.keep ⟨rfl, rfl, rfl, rfl, rfl, trivial⟩), hS⟩)
      ·
       refine wp_block ?_
       refine wp_seq ?_
       refine wp_seq ?_
       refine wp_reg ?_
       refine sq_val (v_eql hF rfl rfl) hF (by decide) (fun a hF => ?_)
       refine sq_val (v_assign hF rfl) hF (by decide) (fun a hF => ?_)
       refine sq_nil ?_
       refine then_n ?_
       obtain ⟨o55, h, hk56⟩ := bindS h
       refine wp_join (fun a W => ∃ (x54 : Bool), x54 = o55 ∧ FH 65 [(0, .slice A0_0 ((u0).length) c0_0), (3, .pointer (some (⟨b1, 0, none⟩))), (5, .slice A7 ((x6).length) c8), (6, .int .i64 (x9)), (7, .pointer (some (⟨b31, 0, none⟩))), (8, .bool ((x22.Owner == u1.Owner))), (25, .int .i64 (u1.Kind)), (26, .bool (x54))] a ∧ St M w0 [⟨b31, TRule.enc x22 A28 c29, 65⟩, ⟨b1, TMod.enc u1 A1_0 c1_0, 40⟩] [⟨(kInt .i64), 3, A7, c8, x6⟩] [fSl k_TAct A28 c29 x22.Acts, fSl k_TRule A0_0 c0_0 u0, fSl k_TAct A1_0 c1_0 u1.Acts] W) (fun a W hJ => ?_) ?_
       ·
        obtain ⟨x54, rfl, hF, hS⟩ := hJ
        have h := hk56
        refine then_n ?_
        obtain ⟨o58, h, hk59⟩ := bindS h
        refine wp_join (fun a W => ∃ (x57 : Bool), x57 = o58 ∧ FH 65 [(0, .slice A0_0 ((u0).length) c0_0), (3, .pointer (some (⟨b1, 0, none⟩))), (5, .slice A7 ((x6).length) c8), (6, .int .i64 (x9)), (8, .bool (x57))] a ∧ St M w0 [⟨b1, TMod.enc u1 A1_0 c1_0, 40⟩] [⟨(kInt .i64), 3, A7, c8, x6⟩] [fSl k_TRule A0_0 c0_0 u0, fSl k_TAct A1_0 c1_0 u1.Acts] W) (fun a W hJ => ?_) ?_
        ·
         obtain ⟨x57, rfl, hF, hS⟩ := hJ
         have h := hk59
         refine blk_n ?_
         obtain rfl := Option.some.inj h
         exact then_j ⟨x57, rfl, (hF.keep ⟨rfl, rfl, rfl, rfl, rfl, trivial⟩), hS⟩
        ·
         refine wp_if hF rfl (fun he60 => ?_) (fun he60 => ?_)
         ·
          replace h := ifT he60 h
          refine wp_reg ?_
          refine sq_val (v_move hF rfl) hF (by decide) (fun a hF => ?_)
          refine sq_val (v_move hF rfl) hF (by decide) (fun a hF => ?_)
          obtain ⟨x62, h, hk64⟩ := bindS h
          refine sq_cut 6 (fun a W => FH 65 [(0, .slice A0_0 ((u0).length) c0_0), (3, .pointer (some (⟨b1, 0, none⟩))), (5, .slice A7 ((x6).length) c8), (6, .int .i64 (x9)), (36, .bool x62)] a ∧ St M w0 [⟨b31, TRule.enc x22 A28 c29, 65⟩, ⟨b1, TMod.enc u1 A1_0 c1_0, 40⟩] [⟨(kInt .i64), 3, A7, c8, x6⟩] [fSl k_TAct A28 c29 x22.Acts, fSl k_TRule A0_0 c0_0 u0, fSl k_TAct A1_0 c1_0 u1.Acts] W) (fun a W hJ => ?_) ?_
          ·
           have h := hk64
           obtain ⟨hF, hS⟩ := hJ
           refine sq_val (v_assign hF rfl) hF (by decide) (fun a hF => ?_)
           refine sq_nil ?_
           obtain rfl := Option.some.inj h
           exact then_j ⟨x62, rfl, (hF.keep ⟨rfl, rfl, rfl, rfl, rfl, trivial⟩), (hS.keep (.cons _ (List.Sublist.refl _)) (List.Sublist.refl _) ⟨⟨1, rfl⟩, ⟨2, rfl⟩, trivial⟩)⟩
          ·
           by_cases he61 : (x22.Owner == u1.Owner) = true
           ·
            replace h := ifT he61 h
            refine sq_yes hF rfl rfl he61 ?_
            refine sq_val (v_fieldAddr hF rfl pf65_0) hF (by decide) (fun a hF => ?_)
            refine sq_yes hF rfl rfl he61 ?_
            refine sq_val (v_load (cs := TCube.enc x22.Match) hF rfl pa26 ps26 (cells_sub (vs := TCube.enc x22.Match) (hS.bc (i := 0) rfl) rfl rfl)) hF (by decide) (fun a hF => ?_)
            refine sq_yes hF rfl rfl he61 ?_
            refine sq_val (v_fieldAddr hF rfl pf40_1) hF (by decide) (fun a hF => ?_)
            refine sq_yes hF rfl rfl he61 ?_
            refine sq_val (v_load (cs := TCube.enc u1.Match) hF rfl pa26 ps26 (cells_sub (vs := TCube.enc u1.Match) (hS.bc (i := 1) rfl) rfl rfl)) hF (by decide) (fun a hF => ?_)
            refine sq_yes hF rfl rfl he61 ?_
            obtain ⟨x65, hx66, h⟩ := bindS h
            refine sq_call hF pc20 rfl (by decide) (ok_ref01_Within k (hS.enter trivial) hx66) (fun v W hR a hF => ?_)
            obtain ⟨rfl, hT67⟩ := hR
            have hS := hS.grow hT67.below
            refine sq_val (v_pick_t hF rfl he61 rfl) hF (by decide) (fun a hF => ?_)
            obtain rfl := Option.some.inj h
            exact sq_nil (then_j ⟨(hF.keep ⟨rfl, rfl, rfl, rfl, rfl, trivial⟩), hS⟩)
           ·
            have he61 : (x22.Owner == u1.Owner) = false := nB he61
            replace h := ifF he61 h
            refine sq_no hF rfl rfl he61 (by rintro x ⟨⟩; decide) (fun a hF => ?_)
            refine sq_no hF rfl rfl he61 (by rintro x ⟨⟩; decide) (fun a hF => ?_)
            refine sq_no hF rfl rfl he61 (by rintro x ⟨⟩; decide) (fun a hF => ?_)
            refine sq_no hF rfl rfl he61 (by rintro x ⟨⟩; decide) (fun a hF => ?_)
            refine sq_no hF rfl rfl he61 (by rintro x ⟨⟩; decide) (fun a hF => ?_)
            refine sq_val (v_pick_f hF rfl he61 rfl) hF (by decide) (fun a hF => ?_)
            obtain rfl := Option.some.inj h
            exact sq_nil (then_j ⟨(hF.keep ⟨rfl, rfl, rfl, rfl, rfl, trivial⟩), hS⟩)
         ·
          replace h := ifF he60 h
          refine wp_seq ?_
          refine wp_seq ?_
          refine wp_reg ?_
          refine sq_val (v_eql hF rfl rfl) hF (by decide) (fun a hF => ?_)
          refine sq_val (v_assign hF rfl) hF (by decide) (fun a hF => ?_)
          refine sq_nil ?_
          refine then_n ?_
          obtain ⟨o69, h, hk70⟩ := bindS h
          refine wp_join (fun a W => ∃ (x68 : Bool), x68 = o69 ∧ FH 65 [(0, .slice A0_0 ((u0).length) c0_0), (3, .pointer (some (⟨b1, 0, none⟩))), (5, .slice A7 ((x6).length) c8), (6, .int .i64 (x9)), (7, .pointer (some (⟨b31, 0, none⟩))), (8, .bool ((x22.Owner == u1.Owner))), (37, .bool (x68))] a ∧ St M w0 [⟨b31, TRule.enc x22 A28 c29, 65⟩, ⟨b1, TMod.enc u1 A1_0 c1_0, 40⟩] [⟨(kInt .i64), 3, A7, c8, x6⟩] [fSl k_TAct A28 c29 x22.Acts, fSl k_TRule A0_0 c0_0 u0, fSl k_TAct A1_0 c1_0 u1.Acts] W) (fun a W hJ => ?_) ?_
          ·
           obtain ⟨x68, rfl, hF, hS⟩ := hJ
           have h := hk70
           refine then_n ?_
           obtain ⟨o72, h, hk73⟩ := bindS h
           refine wp_join (fun a W => ∃ (x71 : Bool), x71 = o72 ∧ FH 65 [(0, .slice A0_0 ((u0).length) c0_0), (3, .pointer (some (⟨b1, 0, none⟩))), (5, .slice A7 ((x6).length) c8), (6, .int .i64 (x9)), (8, .bool (x71))] a ∧ St M w0 [⟨b1, TMod.enc u1 A1_0 c1_0, 40⟩] [⟨(kInt .i64), 3, A7, c8, x6⟩] [fSl k_TRule A0_0 c0_0 u0, fSl k_TAct A1_0 c1_0 u1.Acts] W) (fun a W hJ => ?_) ?_
           ·
            obtain ⟨x71, rfl, hF, hS⟩ := hJ
            have h := hk73
            obtain rfl := Option.some.inj h
            exact then_j ⟨x71, rfl, (hF.keep ⟨rfl, rfl, rfl, rfl, rfl, trivial⟩), hS⟩
           ·
            refine wp_if hF rfl (fun he74 => ?_) (fun he74 => ?_)
            ·
             replace h := ifT he74 h
             refine wp_reg ?_
             refine sq_val (v_move hF rfl) hF (by decide) (fun a hF => ?_)
             refine sq_val (v_move hF rfl) hF (by decide) (fun a hF => ?_)
             refine sq_cut 6 (fun a W => FH 65 [(0, .slice A0_0 ((u0).length) c0_0), (3, .pointer (some (⟨b1, 0, none⟩))), (5, .slice A7 ((x6).length) c8), (6, .int .i64 (x9)), (7, .pointer (some (⟨b31, 0, none⟩))), (47, .bool ((x22.Owner == u1.Owner) && (cellsEq (TCube.enc x22.Match) (TCube.enc u1.Match))))] a ∧ St M w0 [⟨b31, TRule.enc x22 A28 c29, 65⟩, ⟨b1, TMod.enc u1 A1_0 c1_0, 40⟩] [⟨(kInt .i64), 3, A7, c8, x6⟩] [fSl k_TAct A28 c29 x22.Acts, fSl k_TRule A0_0 c0_0 u0, fSl k_TAct A1_0 c1_0 u1.Acts] W) (fun a W hJ => ?_) ?_
             ·
              obtain ⟨hF, hS⟩ := hJ
              refine sq_val (v_move hF rfl) hF (by decide) (fun a hF => ?_)
              refine sq_cut 6 (fun a W => FH 65 [(0, .slice A0_0 ((u0).length) c0_0), (3, .pointer (some (⟨b1, 0, none⟩))), (5, .slice A7 ((x6).length) c8), (6, .int .i64 (x9)), (54, .bool (((x22.Owner == u1.Owner) && (cellsEq (TCube.enc x22.Match) (TCube.enc u1.Match))) && (x22.Prio == u1.Prio)))] a ∧ St M w0 [⟨b31, TRule.enc x22 A28 c29, 65⟩, ⟨b1, TMod.enc u1 A1_0 c1_0, 40⟩] [⟨(kInt .i64), 3, A7, c8, x6⟩] [fSl k_TAct A28 c29 x22.Acts, fSl k_TRule A0_0 c0_0 u0, fSl k_TAct A1_0 c1_0 u1.Acts] W) (fun a W hJ => ?_) ?_
              ·
               obtain ⟨hF, hS⟩ := hJ
               refine sq_val (v_assign hF rfl) hF (by decide) (fun a hF => ?_)
               refine sq_nil ?_
               obtain rfl := Option.some.inj h
               exact then_j ⟨(((x22.Owner == u1.Owner) && (cellsEq (TCube.enc x22.Match) (TCube.enc u1.Match))) && (x22.Prio == u1.Prio)), rfl, (hF.keep ⟨rfl, rfl, rfl, rfl, rfl, trivial⟩), (hS.keep (.cons _ (List.Sublist.refl _)) (List.Sublist.refl _) ⟨⟨1, rfl⟩, ⟨2, rfl⟩, trivial⟩)⟩
              ·
               by_cases he76 : ((x22.Owner == u1.Owner) && (cellsEq (TCube.enc x22.Match) (TCube.enc u1.Match))) = true
               ·
                refine sq_yes hF rfl rfl he76 ?_
                refine sq_val (v_fieldAddr hF rfl pf65_1) hF (by decide) (fun a hF => ?_)
                refine sq_yes hF rfl rfl he76 ?_
                refine sq_val (v_load1 hF rfl pa3 (cells_sub (vs := [.int .i64 (x22.Prio)]) (hS.bc (i := 0) rfl) rfl rfl)) hF (by decide) (fun a hF => ?_)
                refine sq_yes hF rfl rfl he76 ?_
                refine sq_val (v_fieldAddr hF rfl pf40_2) hF (by decide) (fun a hF => ?_)
                refine sq_yes hF rfl rfl he76 ?_
                refine sq_val (v_load1 hF rfl pa3 (cells_sub (vs := [.int .i64 (u1.Prio)]) (hS.bc (i := 1) rfl) rfl rfl)) hF (by decide) (fun a hF => ?_)
                refine sq_yes hF rfl rfl he76 ?_
                refine sq_val (v_eql hF rfl rfl) hF (by decide) (fun a hF => ?_)
                refine sq_val (v_pick_t hF rfl he76 rfl) hF (by decide) (fun a hF => ?_)
                exact sq_nil (then_j ⟨(hF.keep ⟨rfl, rfl, rfl, rfl, (boolV (and_t he76)), trivial⟩), hS⟩)
               ·
                have he76 : ((x22.Owner == u1.Owner) && (cellsEq (TCube.enc x22.Match) (TCube.enc u1.Match))) = false := nB he76
                refine sq_no hF rfl rfl he76 (by rintro x ⟨⟩; decide) (fun a hF => ?_)
                refine sq_no hF rfl rfl he76 (by rintro x ⟨⟩; decide) (fun a hF => ?_)
                refine sq_no hF rfl rfl he76 (by rintro x ⟨⟩; decide) (fun a hF => ?_)
                refine sq_no hF rfl rfl he76 (by rintro x ⟨⟩; decide) (fun a hF => ?_)
                refine sq_no hF rfl rfl he76 (by rintro x ⟨⟩; decide) (fun a hF => ?_)
                refine sq_val (v_pick_f hF rfl he76 rfl) hF (by decide) (fun a hF => ?_)
                exact sq_nil (then_j ⟨(hF.keep ⟨rfl, rfl, rfl, rfl, (boolV (and_f he76)), trivial⟩), hS⟩)
             ·
              by_cases he75 : (x22.Owner == u1.Owner) = true
              ·
               refine sq_yes hF rfl rfl he75 ?_
               refine sq_val (v_fieldAddr hF rfl pf65_0) hF (by decide) (fun a hF => ?_)
               refine sq_yes hF rfl rfl he75 ?_
               refine sq_val (v_load (cs := TCube.enc x22.Match) hF rfl pa26 ps26 (cells_sub (vs := TCube.enc x22.Match) (hS.bc (i := 0) rfl) rfl rfl)) hF (by decide) (fun a hF => ?_)
               refine sq_yes hF rfl rfl he75 ?_
               refine sq_val (v_fieldAddr hF rfl pf40_1) hF (by decide) (fun a hF => ?_)
               refine sq_yes hF rfl rfl he75 ?_
               refine sq_val (v_load (cs := TCube.enc u1.Match) hF rfl pa26 ps26 (cells_sub (vs := TCube.enc u1.Match) (hS.bc (i := 1) rfl) rfl rfl)) hF (by decide) (fun a hF => ?_)
               refine sq_yes hF rfl rfl he75 ?_
               refine sq_val (eq26 hF rfl rfl).1 hF (by decide) (fun a hF => ?_)
               refine sq_val (v_pick_t hF rfl he75 rfl) hF (by decide) (fun a hF => ?_)
               exact sq_nil (then_j ⟨(hF.keep ⟨rfl, rfl, rfl, rfl, rfl, (boolV (and_t he75)), trivial⟩), hS⟩)
              ·
               have he75 : (x22.Owner == u1.Owner) = false := nB he75
               refine sq_no hF rfl rfl he75 (by rintro x ⟨⟩; decide) (fun a hF => ?_)
               refine sq_no hF rfl rfl he75 (by rintro x ⟨⟩; decide) (fun a hF => ?_)
               refine sq_no hF rfl rfl he75 (by rintro x ⟨⟩; decide) (fun a hF => ?_)
               refine sq_no hF rfl rfl he75 (by rintro x ⟨⟩; decide) (fun a hF => ?_)
               refine sq_no hF rfl rfl he75 (by rintro x ⟨⟩; decide) (fun a hF => ?_)
               refine sq_val (v_pick_f hF rfl he75 rfl) hF (by decide) (fun a hF => ?_)
               exact sq_nil (then_j ⟨(hF.keep ⟨rfl, rfl, rfl, rfl, rfl, (boolV (and_f he75)), trivial⟩), hS⟩)
            ·
             replace h := ifF he74 h
             refine wp_reg ?_
             refine sq_val (v_assign hF rfl) hF (by decide) (fun a hF => ?_)
             refine sq_nil ?_
             obtain rfl := Option.some.inj h
             exact then_j ⟨false, rfl, (hF.keep ⟨rfl, rfl, rfl, rfl, rfl, trivial⟩), (hS.keep (.cons _ (List.Sublist.refl _)) (List.Sublist.refl _) ⟨⟨1, rfl⟩, ⟨2, rfl⟩, trivial⟩)⟩
          ·
           refine wp_if hF rfl (fun he77 => ?_) (fun he77 => ?_)
           ·
            replace h := ifT he77 h
            refine wp_skip ?_
            obtain rfl := Option.some.inj h
            exact then_j ⟨(u1.Kind == 4), rfl, (hF.keep ⟨rfl, rfl, rfl, rfl, rfl, rfl, rfl, trivial⟩), hS⟩
           ·
            replace h := ifF he77 h
            refine wp_reg ?_
            refine sq_val (v_eql hF rfl rfl) hF (by decide) (fun a hF => ?_)
            refine sq_val (v_assign hF rfl) hF (by decide) (fun a hF => ?_)
            refine sq_nil ?_
            obtain rfl := Option.some.inj h
            exact then_j ⟨(u1.Kind == 5), rfl, (hF.keep ⟨rfl, rfl, rfl, rfl, rfl, rfl, rfl, trivial⟩), hS⟩
       ·
        refine wp_if hF rfl (fun he78 => ?_) (fun he78 => ?_)
        ·
         replace h := ifT he78 h
         refine wp_skip ?_
         obtain rfl := Option.some.inj h
         exact then_j ⟨(u1.Kind == 2), rfl, (hF.keep ⟨rfl, rfl, rfl, rfl, rfl, rfl, rfl, rfl, trivial⟩), (hS.keep (List.Sublist.refl _) (List.Sublist.refl _) ⟨⟨0, rfl⟩, ⟨2, rfl⟩, ⟨3, rfl⟩, trivial⟩)⟩
        ·
         replace h := ifF he78 h
         refine wp_reg ?_
         refine sq_val (v_eql hF rfl rfl) hF (by decide) (fun a hF => ?_)
         refine sq_val (v_assign hF rfl) hF (by decide) (fun a hF => ?_)
         refine sq_nil ?_
         obtain rfl := Option.some.inj h
         exact then_j ⟨(u1.Kind == 3), rfl, (hF.keep ⟨rfl, rfl, rfl, rfl, rfl, rfl, rfl, rfl, trivial⟩), (hS.keep (List.Sublist.refl _) (List.Sublist.refl _) ⟨⟨0, rfl⟩, ⟨2, rfl⟩, ⟨3, rfl⟩, trivial⟩)⟩
    ·
     replace h := ifF he16 h
     refine wp_exit ?_
     refine then_x ?_
     refine then_x ?_
     refine blk_hit ?_
     obtain rfl := Option.some.inj h
     exact then_j ⟨x6, A7, c8, rfl, (hF.keep ⟨rfl, trivial⟩), (hS.keep (List.nil_sublist _) (List.Sublist.refl _) trivial)⟩
end Go.Proofs.Ytangebngeeamoaa
