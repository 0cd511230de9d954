/- What calls of the Go functions come to. -/
import Derived.Test.YtangebngeeamoaaW2
set_option linter.unusedVariables false
set_option linter.unusedSimpArgs false
set_option maxRecDepth 100000
set_option maxHeartbeats 4000000
namespace Go.Proofs.Ytangebngeeamoaa
open Go.RowKit Go.Pod
theorem ok_cube_Less (k : Nat) {M : Nat → Prop} {w0 : World} {u0 : TCube} {u1 : TCube} {o : (List TCube)} (hS : St M w0 [] [] [] w0) (h : cube_Less k u0 u1 = some o) :
    Calls Try.prog 14 #[.agg (TCube.enc u0).toArray, .agg (TCube.enc u1).toArray] w0 fun e W' => ∃ v, e = .returned v ∧ (∃ (A76 : Option Addr) (c77 : Nat), v = .slice A76 ((o).length) c77 ∧ St M w0 [] [⟨k_TCube, 26, A76, c77, o⟩] [] W') := by
  unfold cube_Less at h
  refine calls_start (args := [.agg (TCube.enc u0).toArray, .agg (TCube.enc u1).toArray]) Try.func14 rfl rfl (Nat.le_of_ble_eq_true rfl) (fun a hF => ?_)
  refine wp_seq ?_
  refine wp_reg ?_
  refine sq_box hF hS rfl rfl (by decide) (fun b1 a W hF hS => ?_)
  refine sq_box hF hS rfl rfl (by decide) (fun b2 a W hF hS => ?_)
  refine sq_val (v_assign hF rfl) hF (by decide) (fun a hF => ?_)
  refine sq_nil ?_
  refine then_n ?_
  refine wp_seq ?_
  refine wp_seq ?_
  refine wp_reg ?_
  refine sq_val (v_load (cs := TCube.enc u0) hF rfl pa26 ps26 (hS.bc (i := 1) rfl)) hF (by decide) (fun a hF => ?_)
  refine sq_val (v_load (cs := TCube.enc u1) hF rfl pa26 ps26 (hS.bc (i := 0) rfl)) hF (by decide) (fun a hF => ?_)
  obtain ⟨x3, hx4, h⟩ := bindS h
  refine sq_call hF pc54 rfl (by decide) (ok_cube_both k (hS.enter trivial) hx4) (fun v W hR a hF => ?_)
  obtain ⟨rfl, hT5⟩ := hR
  have hS := hS.grow hT5.below
  refine sq_val (v_not hF rfl) hF (by decide) (fun a hF => ?_)
  refine sq_nil ?_
  refine then_n ?_
  refine wp_if hF rfl (fun he6 => ?_) (fun he6 => ?_)
  ·
    replace h := ifT he6 h
    refine wp_seq ?_
    refine wp_reg ?_
    refine sq_val (v_assign hF rfl) hF (by decide) (fun a hF => ?_)
    refine sq_nil ?_
    refine then_n ?_
    refine wp_ret ?_
    refine then_r ?_
    have hS := hS.addNil k_TCube 26
    obtain rfl := Option.some.inj h
    exact ret1 hF rfl (rv_tmp hF rfl) ⟨_, rfl, none, 0, rfl, (hS.keep (List.nil_sublist _) (List.Sublist.refl _) trivial)⟩
  ·
    replace h := ifF he6 h
    refine wp_skip ?_
    refine then_n ?_
    refine wp_seq ?_
    refine wp_seq ?_
    refine wp_reg ?_
    refine sq_val (v_load (cs := TCube.enc u0) hF rfl pa26 ps26 (hS.bc (i := 1) rfl)) hF (by decide) (fun a hF => ?_)
    refine sq_val (v_load (cs := TCube.enc u1) hF rfl pa26 ps26 (hS.bc (i := 0) rfl)) hF (by decide) (fun a hF => ?_)
    obtain ⟨x7, hx8, h⟩ := bindS h
    refine sq_call hF pc12 rfl (by decide) (ok_cube_Meet k (hS.enter trivial) hx8) (fun v W hR a hF => ?_)
    obtain ⟨rfl, hT9⟩ := hR
    have hS := hS.grow hT9.below
    refine sq_val (v_move hF rfl) hF (by decide) (fun a hF => ?_)
    refine sq_val (v_extract hF rfl rfl) hF (by decide) (fun a hF => ?_)
    refine sq_val (v_extract hF rfl rfl) hF (by decide) (fun a hF => ?_)
    refine sq_alloc hF hS pz26 rfl (by decide) (fun b10 a W hF hS => ?_)
    refine sq_store (o := 0) (vs := TCube.enc x7.1) (cs' := TCube.enc x7.1) hF hS rfl rfl (i := 0) rfl rfl rfl ps26 (TCube.enc_one _) (Nat.le_of_ble_eq_true rfl) rfl (fun W hS => ?_)
    refine sq_val (v_assign hF rfl) hF (by decide) (fun a hF => ?_)
    refine sq_nil ?_
    refine then_n ?_
    refine wp_seq ?_
    refine wp_reg ?_
    refine sq_val (v_move hF rfl) hF (by decide) (fun a hF => ?_)
    refine sq_val (v_not hF rfl) hF (by decide) (fun a hF => ?_)
    refine sq_nil ?_
    refine then_n ?_
    refine wp_if hF rfl (fun he11 => ?_) (fun he11 => ?_)
    ·
      replace h := ifT he11 h
      refine wp_seq ?_
      refine wp_reg ?_
      refine sq_val (v_load (cs := TCube.enc u0) hF rfl pa26 ps26 (hS.bc (i := 2) rfl)) hF (by decide) (fun a hF => ?_)
      refine sq_buildSlice (κ := k_TCube) (xs := [.tmp 24]) (ys := [u0]) hF hS rfl rfl rfl (Els.cons rfl (Els.nil _ _ _)) rfl psl29 pz26 rfl (by decide) (by decide) (by decide) (fun A12 c13 a W hF hS => ?_)
      refine sq_val (v_assign hF rfl) hF (by decide) (fun a hF => ?_)
      refine sq_nil ?_
      refine then_n ?_
      refine wp_ret ?_
      refine then_r ?_
      obtain rfl := Option.some.inj h
      exact ret1 hF rfl (rv_tmp hF rfl) ⟨_, rfl, A12, c13, rfl, (hS.keep (List.nil_sublist _) (List.Sublist.refl _) trivial)⟩
    ·
      replace h := ifF he11 h
      refine wp_skip ?_
      refine then_n ?_
      refine wp_seq ?_
      refine wp_reg ?_
      refine sq_val (v_assign hF rfl) hF (by decide) (fun a hF => ?_)
      refine sq_nil ?_
      refine then_n ?_
      refine wp_seq ?_
      refine wp_seq ?_
      refine wp_reg ?_
      refine sq_val (v_move hF rfl) hF (by decide) (fun a hF => ?_)
      refine sq_nil ?_
      refine then_n ?_
      obtain ⟨o31, h, hk32⟩ := bindS h
      refine wp_join (fun a W => ∃ (x28 : List TCube) (A29 : Option Addr) (c30 : Nat), x28 = o31 ∧ FH 92 [(7, .slice A29 ((x28).length) c30)] a ∧ St M w0 [] [⟨k_TCube, 26, A29, c30, x28⟩] [] W) (fun a W hJ => ?_) ?_
      ·
        obtain ⟨x28, A29, c30, rfl, hF, hS⟩ := hJ
        have h := hk32
        refine then_n ?_
        refine wp_seq ?_
        refine wp_reg ?_
        refine sq_val (v_move hF rfl) hF (by decide) (fun a hF => ?_)
        refine sq_val (v_assign hF rfl) hF (by decide) (fun a hF => ?_)
        refine sq_nil ?_
        refine then_n ?_
        refine wp_ret ?_
        obtain rfl := Option.some.inj h
        exact ret1 hF rfl (rv_tmp hF rfl) ⟨_, rfl, A29, c30, rfl, hS⟩
      ·
        have hS := hS.addNil k_TCube 26
        refine wp_block ?_
        refine wp_loop_fuel (I := fun m a W => ∃ (x23 : TCube) (x24 : List TCube) (x27 : Int) (A25 : Option Addr) (c26 : Nat), FH 92 [(2, .pointer (some (⟨b1, 0, none⟩))), (3, .pointer (some (⟨b2, 0, none⟩))), (7, .slice A25 ((x24).length) c26), (26, .int .i64 (x27))] a ∧ St M w0 [⟨b2, TCube.enc u1, 26⟩, ⟨b1, TCube.enc x23, 26⟩] [⟨k_TCube, 26, A25, c26, x24⟩] [] W ∧ (cube_Less.l0 k u1 m x23 x24 x27) = some o31) ?_ (k := k) ⟨u0, ([]), 0, none, 0, (hF.keep ⟨rfl, rfl, rfl, rfl, trivial⟩), (hS.keep (.cons _ (List.Sublist.refl _)) (List.Sublist.refl _) trivial), h⟩
        rintro m33 a W ⟨x23, x24, x27, A25, c26, hF, hS, h⟩
        cases m33 with
        | zero => cases h
        | succ m33 =>
          rw [cube_Less.l0] at h
          refine wp_seq ?_
          refine wp_reg ?_
          refine sq_val (v_lss hF rfl rfl) hF (by decide) (fun a hF => ?_)
          refine sq_nil ?_
          refine then_n ?_
          refine wp_seq ?_
          refine wp_if hF rfl (fun he34 => ?_) (fun he34 => ?_)
          ·
            replace h := ifT he34 h
            refine wp_skip ?_
            refine then_n ?_
            refine wp_seq ?_
            refine wp_block ?_
            refine wp_seq ?_
            refine wp_reg ?_
            refine sq_val (v_move hF rfl) hF (by decide) (fun a hF => ?_)
            refine sq_val (v_assign hF rfl) hF (by decide) (fun a hF => ?_)
            refine sq_nil ?_
            refine then_n ?_
            refine wp_seq ?_
            refine wp_reg ?_
            refine sq_val (v_move hF rfl) hF (by decide) (fun a hF => ?_)
            obtain ⟨x35, hx36, h⟩ := bindS h
            refine sq_call hF pc57 rfl (by decide) (ok_head_Size (hS.enter trivial) hx36) (fun v W hR a hF => ?_)
            obtain ⟨rfl, hT37⟩ := hR
            have hS := hS.grow hT37.below
            refine sq_val (v_sub hF rfl rfl) hF (by decide) (fun a hF => ?_)
            refine sq_val (v_assign hF rfl) hF (by decide) (fun a hF => ?_)
            refine sq_nil ?_
            refine then_n ?_
            obtain ⟨o56, h, hk57⟩ := bindS h
            refine wp_join (fun a W => ∃ (x52 : TCube) (x53 : List TCube) (A54 : Option Addr) (c55 : Nat), (x52, x53) = o56 ∧ FH 92 [(2, .pointer (some (⟨b1, 0, none⟩))), (3, .pointer (some (⟨b2, 0, none⟩))), (7, .slice A54 ((x53).length) c55), (26, .int .i64 (x27))] a ∧ St M w0 [⟨b2, TCube.enc u1, 26⟩, ⟨b1, TCube.enc x52, 26⟩] [⟨k_TCube, 26, A54, c55, x53⟩] [] W) (fun a W hJ => ?_) ?_
            ·
              obtain ⟨x52, x53, A54, c55, rfl, hF, hS⟩ := hJ
              have h := hk57
              dsimp only at h
              refine blk_n ?_
              refine then_n ?_
              refine wp_reg ?_
              refine sq_val (v_add hF rfl rfl) hF (by decide) (fun a hF => ?_)
              refine sq_val (v_move hF rfl) hF (by decide) (fun a hF => ?_)
              refine sq_nil ?_
              exact then_j ⟨m33, Nat.lt_succ_self _, x52, x53, (IntKind.i64.wrap (x27 + 1)), A54, c55, (hF.keep ⟨rfl, rfl, rfl, rfl, trivial⟩), hS, h⟩
            ·
              refine wp_block ?_
              refine wp_loop_fuel (I := fun m a W => ∃ (x47 : TCube) (x48 : List TCube) (x51 : Int) (A49 : Option Addr) (c50 : Nat), FH 92 [(2, .pointer (some (⟨b1, 0, none⟩))), (3, .pointer (some (⟨b2, 0, none⟩))), (7, .slice A49 ((x48).length) c50), (8, .int .i64 (x27)), (9, .int .i64 (x51)), (26, .int .i64 (x27))] a ∧ St M w0 [⟨b2, TCube.enc u1, 26⟩, ⟨b1, TCube.enc x47, 26⟩] [⟨k_TCube, 26, A49, c50, x48⟩] [] W ∧ (cube_Less.l1 k u1 x27 m x47 x48 x51) = some o56) ?_ (k := k) ⟨x23, x24, (IntKind.i64.wrap (x35 - 1)), A25, c26, (hF.keep ⟨rfl, rfl, rfl, rfl, rfl, rfl, trivial⟩), hS, h⟩
              rintro m58 a W ⟨x47, x48, x51, A49, c50, hF, hS, h⟩
              cases m58 with
              | zero => cases h
              | succ m58 =>
                rw [cube_Less.l1] at h
                refine wp_seq ?_
                refine wp_seq ?_
                refine wp_reg ?_
                refine sq_val (v_move hF rfl) hF (by decide) (fun a hF => ?_)
                refine sq_val (v_geq hF rfl rfl) hF (by decide) (fun a hF => ?_)
                refine sq_nil ?_
                refine then_n ?_
                refine wp_if hF rfl (fun he59 => ?_) (fun he59 => ?_)
                ·
                  replace h := ifT he59 h
                  refine wp_skip ?_
                  refine then_n ?_
                  refine wp_seq ?_
                  obtain ⟨o64, h, hk65⟩ := bindS h
                  refine wp_join (fun a W => ∃ (x60 : TCube) (x61 : List TCube) (A62 : Option Addr) (c63 : Nat), (x60, x61) = o64 ∧ FH 92 [(2, .pointer (some (⟨b1, 0, none⟩))), (3, .pointer (some (⟨b2, 0, none⟩))), (7, .slice A62 ((x61).length) c63), (8, .int .i64 (x27)), (9, .int .i64 (x51)), (26, .int .i64 (x27))] a ∧ St M w0 [⟨b2, TCube.enc u1, 26⟩, ⟨b1, TCube.enc x60, 26⟩] [⟨k_TCube, 26, A62, c63, x61⟩] [] W) (fun a W hJ => ?_) ?_
                  ·
                    obtain ⟨x60, x61, A62, c63, rfl, hF, hS⟩ := hJ
                    have h := hk65
                    dsimp only at h
                    refine then_n ?_
                    refine wp_reg ?_
                    refine sq_val (v_move hF rfl) hF (by decide) (fun a hF => ?_)
                    refine sq_val (v_sub hF rfl rfl) hF (by decide) (fun a hF => ?_)
                    refine sq_val (v_assign hF rfl) hF (by decide) (fun a hF => ?_)
                    refine sq_nil ?_
                    exact then_j ⟨m58, Nat.lt_succ_self _, x60, x61, (IntKind.i64.wrap (x51 - 1)), A62, c63, (hF.keep ⟨rfl, rfl, rfl, rfl, rfl, rfl, trivial⟩), hS, h⟩
                  ·
                    refine wp_block ?_
                    refine wp_seq ?_
                    refine wp_reg ?_
                    refine sq_val (v_move hF rfl) hF (by decide) (fun a hF => ?_)
                    obtain ⟨hb66, h⟩ := ifS h
                    refine sq_val (v_shl hF rfl rfl hb66) hF (by decide) (fun a hF => ?_)
                    refine sq_val (v_assign hF rfl) hF (by decide) (fun a hF => ?_)
                    refine sq_nil ?_
                    refine then_n ?_
                    refine wp_seq ?_
                    refine wp_seq ?_
                    refine wp_quiet rfl (by kernel_rfl) hS ?_
                    refine qt_val (fun W hC => (v_move hF rfl)) hF (by decide) (fun a hF => ?_)
                    refine qt_val (fun W hC => (v_fieldAddr hF rfl pf26_1)) hF (by decide) (fun a hF => ?_)
                    obtain ⟨hb67, h⟩ := ifS h
                    refine qt_val (fun W hC => (v_indexAddr hF rfl rfl par24 hb67.1 hb67.2)) hF (by decide) (fun a hF => ?_)
                    refine qt_val (fun W hC => (v_load1 hF rfl pa22 (cells_sub (vs := [.int .u64 ((u1.Care.at x27))]) (hC.2.bc (i := 0) rfl) (add_add _ _ _) (TCube.get_Care u1 x27 hb67.1 hb67.2)))) hF (by decide) (fun a hF => ?_)
                    refine qt_val (fun W hC => (v_move hF rfl)) hF (by decide) (fun a hF => ?_)
                    refine qt_val (fun W hC => (v_fieldAddr hF rfl pf26_1)) hF (by decide) (fun a hF => ?_)
                    refine qt_val (fun W hC => (v_indexAddr hF rfl rfl par24 hb67.1 hb67.2)) hF (by decide) (fun a hF => ?_)
                    refine qt_val (fun W hC => (v_load1 hF rfl pa22 (cells_sub (vs := [.int .u64 ((x47.Care.at x27))]) (hC.2.bc (i := 1) rfl) (add_add _ _ _) (TCube.get_Care x47 x27 hb67.1 hb67.2)))) hF (by decide) (fun a hF => ?_)
                    refine qt_val (fun W hC => (v_andNot hF rfl rfl)) hF (by decide) (fun a hF => ?_)
                    refine qt_val (fun W hC => (v_move hF rfl)) hF (by decide) (fun a hF => ?_)
                    refine qt_val (fun W hC => (v_and hF rfl rfl)) hF (by decide) (fun a hF => ?_)
                    refine qt_val (fun W hC => (v_eql hF rfl rfl)) hF (by decide) (fun a hF => ?_)
                    refine qt_nil ?_
                    intro W hC
                    have hS := hC.2
                    refine then_n ?_
                    refine wp_if hF rfl (fun he68 => ?_) (fun he68 => ?_)
                    ·
                      replace h := ifT he68 h
                      refine wp_exit ?_
                      refine then_x ?_
                      refine blk_hit ?_
                      obtain rfl := Option.some.inj h
                      exact then_j ⟨x47, x48, A49, c50, rfl, (hF.keep ⟨rfl, rfl, rfl, rfl, rfl, rfl, trivial⟩), hS⟩
                    ·
                      replace h := ifF he68 h
                      refine wp_skip ?_
                      refine then_n ?_
                      refine wp_seq ?_
                      refine wp_reg ?_
                      refine sq_val (v_move hF rfl) hF (by decide) (fun a hF => ?_)
                      refine sq_val (v_fieldAddr hF rfl pf26_1) hF (by decide) (fun a hF => ?_)
                      refine sq_val (v_indexAddr hF rfl rfl par24 hb67.1 hb67.2) hF (by decide) (fun a hF => ?_)
                      refine sq_val (v_load1 hF rfl pa22 (cells_sub (vs := [.int .u64 ((x47.Care.at x27))]) (hS.bc (i := 1) rfl) (add_add _ _ _) (TCube.get_Care x47 x27 hb67.1 hb67.2))) hF (by decide) (fun a hF => ?_)
                      refine sq_val (v_move hF rfl) hF (by decide) (fun a hF => ?_)
                      refine sq_val (v_or hF rfl rfl) hF (by decide) (fun a hF => ?_)
                      refine sq_val (v_fieldAddr hF rfl pf26_1) hF (by decide) (fun a hF => ?_)
                      refine sq_val (v_indexAddr hF rfl rfl par24 hb67.1 hb67.2) hF (by decide) (fun a hF => ?_)
                      refine sq_store (o := 12 + x27.toNat * 1) (vs := [.int .u64 ((bOr .u64 (x47.Care.at x27) (bShl .u64 1 x51)))]) (cs' := TCube.enc (TCube.setCare x47 (x47.Care.upd x27 (bOr .u64 (x47.Care.at x27) (bShl .u64 1 x51))))) hF hS rfl (by simp only [add_add, add_plain, Nat.zero_add]) (i := 1) rfl rfl rfl ps22 (one1 rfl) (by have h0 := hb67.1; have h1 := hb67.2; simp only [TCube.enc, List.length_cons, List.length_nil]; omega) (TCube.set_Care x47 x27 _ hb67.1 hb67.2) (fun W hS => ?_)
                      refine sq_nil ?_
                      refine then_n ?_
                      refine wp_seq ?_
                      refine wp_reg ?_
                      refine sq_val (v_load (cs := TCube.enc (TCube.setCare x47 (x47.Care.upd x27 (bOr .u64 (x47.Care.at x27) (bShl .u64 1 x51))))) hF rfl pa26 ps26 (hS.bc (i := 1) rfl)) hF (by decide) (fun a hF => ?_)
                      refine sq_alloc hF hS pz26 rfl (by decide) (fun b69 a W hF hS => ?_)
                      refine sq_store (o := 0) (vs := TCube.enc (TCube.setCare x47 (x47.Care.upd x27 (bOr .u64 (x47.Care.at x27) (bShl .u64 1 x51))))) (cs' := TCube.enc (TCube.setCare x47 (x47.Care.upd x27 (bOr .u64 (x47.Care.at x27) (bShl .u64 1 x51))))) hF hS rfl rfl (i := 0) rfl rfl rfl ps26 (TCube.enc_one _) (Nat.le_of_ble_eq_true rfl) rfl (fun W hS => ?_)
                      refine sq_nil ?_
                      refine then_n ?_
                      refine wp_seq ?_
                      refine wp_drawn (QC M w0 [⟨b69, TCube.enc (TCube.setCare x47 (x47.Care.upd x27 (bOr .u64 (x47.Care.at x27) (bShl .u64 1 x51)))), 26⟩, ⟨b2, TCube.enc u1, 26⟩, ⟨b1, TCube.enc (TCube.setCare x47 (x47.Care.upd x27 (bOr .u64 (x47.Care.at x27) (bShl .u64 1 x51)))), 26⟩] [⟨k_TCube, 26, A49, c50, x48⟩] []) (fun q => Nat.beq q 14) rfl hS (fun W hB0 hR0 => ?_)
                      have hS := hR0
                      have hQC : (QC M w0 [⟨b69, TCube.enc (TCube.setCare x47 (x47.Care.upd x27 (bOr .u64 (x47.Care.at x27) (bShl .u64 1 x51)))), 26⟩, ⟨b2, TCube.enc u1, 26⟩, ⟨b1, TCube.enc (TCube.setCare x47 (x47.Care.upd x27 (bOr .u64 (x47.Care.at x27) (bShl .u64 1 x51)))), 26⟩] [⟨k_TCube, 26, A49, c50, x48⟩] []) W W := ⟨Bl.refl _ _, hS⟩
                      refine e_val (listed' := #[true, false, false, false, false, false, false, false, false, false, false, false, false, false, false]) 0 rfl (by kernel_rfl) (by kernel_rfl) (fun _ _ _ h => h) (fun W => (v_move hF rfl)) hF (by decide) (fun a hF => ?_)
                      refine e_val (listed' := #[true, true, false, false, false, false, false, false, false, false, false, false, false, false, false]) 1 rfl (by kernel_rfl) (by kernel_rfl) (fun _ _ _ h => h) (fun W => (v_fieldAddr hF rfl pf26_0)) hF (by decide) (fun a hF => ?_)
                      refine e_val (listed' := #[true, true, true, false, false, false, false, false, false, false, false, false, false, false, false]) 2 rfl (by kernel_rfl) (by kernel_rfl) (fun _ _ _ h => h) (fun W => (v_indexAddr hF rfl rfl par24 hb67.1 hb67.2)) hF (by decide) (fun a hF => ?_)
                      refine e_valS (listed' := #[true, true, true, true, false, false, false, false, false, false, false, false, false, false, false]) 3 rfl (by kernel_rfl) (by kernel_rfl) (fun _ _ _ h => h) (fun W hC => (v_load1 hF rfl pa22 (cells_sub (vs := [.int .u64 ((x47.Value.at x27))]) (hC.2.bc (i := 0) rfl) (add_add _ _ _) (TCube.get_Value (TCube.setCare x47 (x47.Care.upd x27 (bOr .u64 (x47.Care.at x27) (bShl .u64 1 x51)))) x27 hb67.1 hb67.2)))) hQC (by kernel_rfl) hF (by decide) (fun a hF => ?_)
                      refine e_val (listed' := #[true, true, true, true, true, false, false, false, false, false, false, false, false, false, false]) 4 rfl (by kernel_rfl) (by kernel_rfl) (fun _ _ _ h => h) (fun W => (v_move hF rfl)) hF (by decide) (fun a hF => ?_)
                      refine e_val (listed' := #[true, true, true, true, true, true, false, false, false, false, false, false, false, false, false]) 5 rfl (by kernel_rfl) (by kernel_rfl) (fun _ _ _ h => h) (fun W => (v_fieldAddr hF rfl pf26_0)) hF (by decide) (fun a hF => ?_)
                      refine e_val (listed' := #[true, true, true, true, true, true, true, false, false, false, false, false, false, false, false]) 6 rfl (by kernel_rfl) (by kernel_rfl) (fun _ _ _ h => h) (fun W => (v_indexAddr hF rfl rfl par24 hb67.1 hb67.2)) hF (by decide) (fun a hF => ?_)
                      refine e_valS (listed' := #[true, true, true, true, true, true, true, true, false, false, false, false, false, false, false]) 7 rfl (by kernel_rfl) (by kernel_rfl) (fun _ _ _ h => h) (fun W hC => (v_load1 hF rfl pa22 (cells_sub (vs := [.int .u64 ((u1.Value.at x27))]) (hC.2.bc (i := 1) rfl) (add_add _ _ _) (TCube.get_Value u1 x27 hb67.1 hb67.2)))) hQC (by kernel_rfl) hF (by decide) (fun a hF => ?_)
                      refine e_val (listed' := #[true, true, true, true, true, true, true, true, true, false, false, false, false, false, false]) 8 rfl (by kernel_rfl) (by kernel_rfl) (fun _ _ _ h => h) (fun W => (v_inv hF rfl)) hF (by decide) (fun a hF => ?_)
                      refine e_val (listed' := #[true, true, true, true, true, true, true, true, true, true, false, false, false, false, false]) 9 rfl (by kernel_rfl) (by kernel_rfl) (fun _ _ _ h => h) (fun W => (v_move hF rfl)) hF (by decide) (fun a hF => ?_)
                      refine e_val (listed' := #[true, true, true, true, true, true, true, true, true, true, true, false, false, false, false]) 10 rfl (by kernel_rfl) (by kernel_rfl) (fun _ _ _ h => h) (fun W => (v_and hF rfl rfl)) hF (by decide) (fun a hF => ?_)
                      refine e_val (listed' := #[true, true, true, true, true, true, true, true, true, true, true, true, false, false, false]) 11 rfl (by kernel_rfl) (by kernel_rfl) (fun _ _ _ h => h) (fun W => (v_or hF rfl rfl)) hF (by decide) (fun a hF => ?_)
                      refine e_val (listed' := #[true, true, true, true, true, true, true, true, true, true, true, true, true, false, false]) 12 rfl (by kernel_rfl) (by kernel_rfl) (fun _ _ _ h => h) (fun W => (v_fieldAddr hF rfl pf26_0)) hF (by decide) (fun a hF => ?_)
                      refine e_val (listed' := #[true, true, true, true, true, true, true, true, true, true, true, true, true, true, false]) 13 rfl (by kernel_rfl) (by kernel_rfl) (fun _ _ _ h => h) (fun W => (v_indexAddr hF rfl rfl par24 hb67.1 hb67.2)) hF (by decide) (fun a hF => ?_)
                      refine e_one (listed' := #[true, true, true, true, true, true, true, true, true, true, true, true, true, true, true]) 14 rfl (by kernel_rfl) (by kernel_rfl) ?_
                      refine sq_store (o := 0 + x27.toNat * 1) (vs := [.int .u64 ((bOr .u64 (x47.Value.at x27) (bAnd .u64 (bNot .u64 (u1.Value.at x27)) (bShl .u64 1 x51))))]) (cs' := TCube.enc ({ Value := (x47.Value.upd x27 (bOr .u64 (x47.Value.at x27) (bAnd .u64 (bNot .u64 (u1.Value.at x27)) (bShl .u64 1 x51)))), Care := (x47.Care.upd x27 (bOr .u64 (x47.Care.at x27) (bShl .u64 1 x51))) } : TCube)) hF hS rfl (by simp only [add_add, add_plain, Nat.zero_add]) (i := 0) rfl rfl rfl ps22 (one1 rfl) (by have h0 := hb67.1; have h1 := hb67.2; simp only [TCube.enc, List.length_cons, List.length_nil]; omega) (TCube.set_Value (TCube.setCare x47 (x47.Care.upd x27 (bOr .u64 (x47.Care.at x27) (bShl .u64 1 x51)))) x27 _ hb67.1 hb67.2) (fun W hS => ?_)
                      refine sq_nil (then_j ⟨?_, ?_⟩)
                      · exact fun _ hE => absurd hE (by decide)
                      ·
                        refine e_done (by kernel_rfl) ?_ _
                        refine then_n ?_
                        refine wp_seq ?_
                        refine wp_reg ?_
                        refine sq_val (v_move hF rfl) hF (by decide) (fun a hF => ?_)
                        refine sq_val (v_load (cs := TCube.enc ({ Value := (x47.Value.upd x27 (bOr .u64 (x47.Value.at x27) (bAnd .u64 (bNot .u64 (u1.Value.at x27)) (bShl .u64 1 x51)))), Care := (x47.Care.upd x27 (bOr .u64 (x47.Care.at x27) (bShl .u64 1 x51))) } : TCube)) hF rfl pa26 ps26 (hS.bc (i := 0) rfl)) hF (by decide) (fun a hF => ?_)
                        refine sq_buildSlice (κ := k_TCube) (xs := [.tmp 74]) (ys := [({ Value := (x47.Value.upd x27 (bOr .u64 (x47.Value.at x27) (bAnd .u64 (bNot .u64 (u1.Value.at x27)) (bShl .u64 1 x51)))), Care := (x47.Care.upd x27 (bOr .u64 (x47.Care.at x27) (bShl .u64 1 x51))) } : TCube)]) hF hS rfl rfl rfl (Els.cons rfl (Els.nil _ _ _)) rfl psl29 pz26 rfl (by decide) (by decide) (by decide) (fun A70 c71 a W hF hS => ?_)
                        obtain ⟨x74, hx75, h⟩ := bindS h
                        refine sq_append (ys := ([({ Value := (x47.Value.upd x27 (bOr .u64 (x47.Value.at x27) (bAnd .u64 (bNot .u64 (u1.Value.at x27)) (bShl .u64 1 x51)))), Care := (x47.Care.upd x27 (bOr .u64 (x47.Care.at x27) (bShl .u64 1 x51))) } : TCube)])) hF hS (i := 1) rfl rfl rfl (hS.rw_ (i := 0) rfl).src psl29 pb26 pz26 rfl (by decide) (by decide) hx75 (by decide) (fun A72 c73 a W hF hS => ?_)
                        refine sq_val (v_assign hF rfl) hF (by decide) (fun a hF => ?_)
                        refine sq_nil ?_
                        refine then_n ?_
                        refine wp_drawn (QC M w0 [⟨b69, TCube.enc ({ Value := (x47.Value.upd x27 (bOr .u64 (x47.Value.at x27) (bAnd .u64 (bNot .u64 (u1.Value.at x27)) (bShl .u64 1 x51)))), Care := (x47.Care.upd x27 (bOr .u64 (x47.Care.at x27) (bShl .u64 1 x51))) } : TCube), 26⟩, ⟨b2, TCube.enc u1, 26⟩, ⟨b1, TCube.enc (TCube.setCare x47 (x47.Care.upd x27 (bOr .u64 (x47.Care.at x27) (bShl .u64 1 x51)))), 26⟩] [⟨k_TCube, 26, A70, c71, [({ Value := (x47.Value.upd x27 (bOr .u64 (x47.Value.at x27) (bAnd .u64 (bNot .u64 (u1.Value.at x27)) (bShl .u64 1 x51)))), Care := (x47.Care.upd x27 (bOr .u64 (x47.Care.at x27) (bShl .u64 1 x51))) } : TCube)]⟩, ⟨k_TCube, 26, A72, c73, x74⟩] []) (fun q => Nat.beq q 13) rfl hS (fun W hB0 hR0 => ?_)
                        have hS := hR0
                        have hQC : (QC M w0 [⟨b69, TCube.enc ({ Value := (x47.Value.upd x27 (bOr .u64 (x47.Value.at x27) (bAnd .u64 (bNot .u64 (u1.Value.at x27)) (bShl .u64 1 x51)))), Care := (x47.Care.upd x27 (bOr .u64 (x47.Care.at x27) (bShl .u64 1 x51))) } : TCube), 26⟩, ⟨b2, TCube.enc u1, 26⟩, ⟨b1, TCube.enc (TCube.setCare x47 (x47.Care.upd x27 (bOr .u64 (x47.Care.at x27) (bShl .u64 1 x51)))), 26⟩] [⟨k_TCube, 26, A70, c71, [({ Value := (x47.Value.upd x27 (bOr .u64 (x47.Value.at x27) (bAnd .u64 (bNot .u64 (u1.Value.at x27)) (bShl .u64 1 x51)))), Care := (x47.Care.upd x27 (bOr .u64 (x47.Care.at x27) (bShl .u64 1 x51))) } : TCube)]⟩, ⟨k_TCube, 26, A72, c73, x74⟩] []) W W := ⟨Bl.refl _ _, hS⟩
                        refine e_val (listed' := #[true, false, false, false, false, false, false, false, false, false, false, false, false, false]) 0 rfl (by kernel_rfl) (by kernel_rfl) (fun _ _ _ h => h) (fun W => (v_move hF rfl)) hF (by decide) (fun a hF => ?_)
                        refine e_val (listed' := #[true, true, false, false, false, false, false, false, false, false, false, false, false, false]) 1 rfl (by kernel_rfl) (by kernel_rfl) (fun _ _ _ h => h) (fun W => (v_fieldAddr hF rfl pf26_0)) hF (by decide) (fun a hF => ?_)
                        refine e_val (listed' := #[true, true, true, false, false, false, false, false, false, false, false, false, false, false]) 2 rfl (by kernel_rfl) (by kernel_rfl) (fun _ _ _ h => h) (fun W => (v_indexAddr hF rfl rfl par24 hb67.1 hb67.2)) hF (by decide) (fun a hF => ?_)
                        refine e_valS (listed' := #[true, true, true, true, false, false, false, false, false, false, false, false, false, false]) 3 rfl (by kernel_rfl) (by kernel_rfl) (fun _ _ _ h => h) (fun W hC => (v_load1 hF rfl pa22 (cells_sub (vs := [.int .u64 ((x47.Value.at x27))]) (hC.2.bc (i := 2) rfl) (add_add _ _ _) (TCube.get_Value (TCube.setCare x47 (x47.Care.upd x27 (bOr .u64 (x47.Care.at x27) (bShl .u64 1 x51)))) x27 hb67.1 hb67.2)))) hQC (by kernel_rfl) hF (by decide) (fun a hF => ?_)
                        refine e_val (listed' := #[true, true, true, true, true, false, false, false, false, false, false, false, false, false]) 4 rfl (by kernel_rfl) (by kernel_rfl) (fun _ _ _ h => h) (fun W => (v_move hF rfl)) hF (by decide) (fun a hF => ?_)
                        refine e_val (listed' := #[true, true, true, true, true, true, false, false, false, false, false, false, false, false]) 5 rfl (by kernel_rfl) (by kernel_rfl) (fun _ _ _ h => h) (fun W => (v_fieldAddr hF rfl pf26_0)) hF (by decide) (fun a hF => ?_)
                        refine e_val (listed' := #[true, true, true, true, true, true, true, false, false, false, false, false, false, false]) 6 rfl (by kernel_rfl) (by kernel_rfl) (fun _ _ _ h => h) (fun W => (v_indexAddr hF rfl rfl par24 hb67.1 hb67.2)) hF (by decide) (fun a hF => ?_)
                        refine e_valS (listed' := #[true, true, true, true, true, true, true, true, false, false, false, false, false, false]) 7 rfl (by kernel_rfl) (by kernel_rfl) (fun _ _ _ h => h) (fun W hC => (v_load1 hF rfl pa22 (cells_sub (vs := [.int .u64 ((u1.Value.at x27))]) (hC.2.bc (i := 1) rfl) (add_add _ _ _) (TCube.get_Value u1 x27 hb67.1 hb67.2)))) hQC (by kernel_rfl) hF (by decide) (fun a hF => ?_)
                        refine e_val (listed' := #[true, true, true, true, true, true, true, true, true, false, false, false, false, false]) 8 rfl (by kernel_rfl) (by kernel_rfl) (fun _ _ _ h => h) (fun W => (v_move hF rfl)) hF (by decide) (fun a hF => ?_)
                        refine e_val (listed' := #[true, true, true, true, true, true, true, true, true, true, false, false, false, false]) 9 rfl (by kernel_rfl) (by kernel_rfl) (fun _ _ _ h => h) (fun W => (v_and hF rfl rfl)) hF (by decide) (fun a hF => ?_)
                        refine e_val (listed' := #[true, true, true, true, true, true, true, true, true, true, true, false, false, false]) 10 rfl (by kernel_rfl) (by kernel_rfl) (fun _ _ _ h => h) (fun W => (v_or hF rfl rfl)) hF (by decide) (fun a hF => ?_)
                        refine e_val (listed' := #[true, true, true, true, true, true, true, true, true, true, true, true, false, false]) 11 rfl (by kernel_rfl) (by kernel_rfl) (fun _ _ _ h => h) (fun W => (v_fieldAddr hF rfl pf26_0)) hF (by decide) (fun a hF => ?_)
                        refine e_val (listed' := #[true, true, true, true, true, true, true, true, true, true, true, true, true, false]) 12 rfl (by kernel_rfl) (by kernel_rfl) (fun _ _ _ h => h) (fun W => (v_indexAddr hF rfl rfl par24 hb67.1 hb67.2)) hF (by decide) (fun a hF => ?_)
                        refine e_one (listed' := #[true, true, true, true, true, true, true, true, true, true, true, true, true, true]) 13 rfl (by kernel_rfl) (by kernel_rfl) ?_
                        refine sq_store (o := 0 + x27.toNat * 1) (vs := [.int .u64 ((bOr .u64 (x47.Value.at x27) (bAnd .u64 (u1.Value.at x27) (bShl .u64 1 x51))))]) (cs' := TCube.enc ({ Value := (x47.Value.upd x27 (bOr .u64 (x47.Value.at x27) (bAnd .u64 (u1.Value.at x27) (bShl .u64 1 x51)))), Care := (x47.Care.upd x27 (bOr .u64 (x47.Care.at x27) (bShl .u64 1 x51))) } : TCube)) hF hS rfl (by simp only [add_add, add_plain, Nat.zero_add]) (i := 2) rfl rfl rfl ps22 (one1 rfl) (by have h0 := hb67.1; have h1 := hb67.2; simp only [TCube.enc, List.length_cons, List.length_nil]; omega) (TCube.set_Value (TCube.setCare x47 (x47.Care.upd x27 (bOr .u64 (x47.Care.at x27) (bShl .u64 1 x51)))) x27 _ hb67.1 hb67.2) (fun W hS => ?_)
                        refine sq_nil (then_j ⟨?_, ?_⟩)
                        · exact fun _ hE => absurd hE (by decide)
                        ·
                          refine e_done (by kernel_rfl) ?_ _
                          refine blk_n ?_
                          obtain rfl := Option.some.inj h
                          exact then_j ⟨({ Value := (x47.Value.upd x27 (bOr .u64 (x47.Value.at x27) (bAnd .u64 (u1.Value.at x27) (bShl .u64 1 x51)))), Care := (x47.Care.upd x27 (bOr .u64 (x47.Care.at x27) (bShl .u64 1 x51))) } : TCube), x74, A72, c73, rfl, (hF.keep ⟨rfl, rfl, rfl, rfl, rfl, rfl, trivial⟩), (hS.keep (.cons _ (List.Sublist.refl _)) (.cons _ (List.Sublist.refl _)) trivial)⟩
                ·
                  replace h := ifF he59 h
                  refine wp_exit ?_
                  refine then_x ?_
                  refine then_x ?_
                  refine blk_hit ?_
                  obtain rfl := Option.some.inj h
                  exact then_j ⟨x47, x48, A49, c50, rfl, (hF.keep ⟨rfl, rfl, rfl, rfl, trivial⟩), hS⟩
          ·
            replace h := ifF he34 h
            refine wp_exit ?_
            refine then_x ?_
            refine then_x ?_
            refine blk_hit ?_
            obtain rfl := Option.some.inj h
            exact then_j ⟨x24, A25, c26, rfl, (hF.keep ⟨rfl, trivial⟩), (hS.keep (List.nil_sublist _) (List.Sublist.refl _) trivial)⟩

theorem ok_space_lean (k : Nat) {M : Nat → Prop} {w0 : World} {u0 : List TCube} {A0_0 : Option Addr} {c0_0 : Nat} {o : (List TCube) × Int} (hS : St M w0 [] [] [fSl k_TCube A0_0 c0_0 u0] w0) (h : space_lean k u0 = some o) :
    Calls Try.prog 103 #[.slice A0_0 ((u0).length) c0_0] w0 fun e W' => ∃ v, e = .returned v ∧ (∃ (A7 : Option Addr) (c8 : Nat), v = .tuple #[.slice A7 ((o.1).length) c8, .int .i64 (o.2)] ∧ St M w0 [] [⟨k_TCube, 26, A7, c8, o.1⟩] [] W') := by
  unfold space_lean at h
  refine calls_start (args := [.slice A0_0 ((u0).length) c0_0]) Try.func103 rfl rfl (Nat.le_of_ble_eq_true rfl) (fun a hF => ?_)
  refine wp_seq ?_
  refine wp_reg ?_
  refine sq_val (v_assign hF rfl) hF (by decide) (fun a hF => ?_)
  refine sq_val (v_assign hF rfl) hF (by decide) (fun a hF => ?_)
  refine sq_nil ?_
  refine then_n ?_
  refine wp_seq ?_
  refine wp_reg ?_
  refine sq_val (v_move hF rfl) hF (by decide) (fun a hF => ?_)
  obtain ⟨x1, hx2, h⟩ := bindS h
  refine sq_call hF pc37 rfl (by decide) (ok_space_Lean k (hS.enter ⟨⟨0, rfl⟩, trivial⟩) hx2) (fun v W hR a hF => ?_)
  obtain ⟨A3, c4, rfl, hT5⟩ := hR
  have hS := hS.join hT5
  refine sq_val (v_assign hF rfl) hF (by decide) (fun a hF => ?_)
  refine sq_nil ?_
  refine then_n ?_
  refine wp_seq ?_
  refine wp_seq ?_
  refine wp_reg ?_
  refine sq_val (v_move hF rfl) hF (by decide) (fun a hF => ?_)
  refine sq_val (v_len hF rfl pu29) hF (by decide) (fun a hF => ?_)
  refine sq_val (v_gtr hF rfl rfl) hF (by decide) (fun a hF => ?_)
  refine sq_nil ?_
  refine then_n ?_
  refine wp_if hF rfl (fun he6 => ?_) (fun he6 => ?_)
  ·
    replace h := ifT he6 h
    refine wp_seq ?_
    refine wp_reg ?_
    refine sq_val (v_assign hF rfl) hF (by decide) (fun a hF => ?_)
    refine sq_val (v_assign hF rfl) hF (by decide) (fun a hF => ?_)
    refine sq_nil ?_
    refine then_n ?_
    refine wp_ret ?_
    refine then_r ?_
    have hS := hS.addNil k_TCube 26
    obtain rfl := Option.some.inj h
    exact ret2 hF rfl (rv_tmp hF rfl) (rv_tmp hF rfl) ⟨_, rfl, none, 0, rfl, (hS.keep (List.Sublist.refl _) (.cons_cons _ (List.nil_sublist _)) trivial)⟩
  ·
    replace h := ifF he6 h
    refine wp_skip ?_
    refine then_n ?_
    refine wp_seq ?_
    refine wp_reg ?_
    refine sq_val (v_move hF rfl) hF (by decide) (fun a hF => ?_)
    refine sq_val (v_assign hF rfl) hF (by decide) (fun a hF => ?_)
    refine sq_val (v_assign hF rfl) hF (by decide) (fun a hF => ?_)
    refine sq_nil ?_
    refine then_n ?_
    refine wp_ret ?_
    obtain rfl := Option.some.inj h
    exact ret2 hF rfl (rv_tmp hF rfl) (rv_tmp hF rfl) ⟨_, rfl, A3, c4, rfl, (hS.keep (List.Sublist.refl _) (List.Sublist.refl _) trivial)⟩

theorem ok_space_Less (k : Nat) {M : Nat → Prop} {w0 : World} {u0 : List TCube} {A0_0 : Option Addr} {c0_0 : Nat} {u1 : List TCube} {A1_0 : Option Addr} {c1_0 : Nat} {o : (List TCube) × Int} (hS : St M w0 [] [] [fSl k_TCube A0_0 c0_0 u0, fSl k_TCube A1_0 c1_0 u1] w0) (h : space_Less k u0 u1 = some o) :
    Calls Try.prog 43 #[.slice A0_0 ((u0).length) c0_0, .slice A1_0 ((u1).length) c1_0] w0 fun e W' => ∃ v, e = .returned v ∧ (∃ (A78 : Option Addr) (c79 : Nat), v = .tuple #[.slice A78 ((o.1).length) c79, .int .i64 (o.2)] ∧ St M w0 [] [⟨k_TCube, 26, A78, c79, o.1⟩] [] W') := by
  unfold space_Less at h
  refine calls_start (args := [.slice A0_0 ((u0).length) c0_0, .slice A1_0 ((u1).length) c1_0]) Try.func43 rfl rfl (Nat.le_of_ble_eq_true rfl) (fun a hF => ?_)
  refine wp_seq ?_
  refine wp_reg ?_
  refine sq_val (v_assign hF rfl) hF (by decide) (fun a hF => ?_)
  refine sq_val (v_assign hF rfl) hF (by decide) (fun a hF => ?_)
  refine sq_nil ?_
  refine then_n ?_
  refine wp_seq ?_
  refine wp_seq ?_
  refine wp_reg ?_
  refine sq_val (v_move hF rfl) hF (by decide) (fun a hF => ?_)
  obtain ⟨x1, hx2, h⟩ := bindS h
  refine sq_call hF pc38 rfl (by decide) (ok_space_Sound k (hS.enter ⟨⟨0, rfl⟩, trivial⟩) hx2) (fun v W hR a hF => ?_)
  obtain ⟨rfl, hT3⟩ := hR
  have hS := hS.grow hT3.below
  refine sq_val (v_not hF rfl) hF (by decide) (fun a hF => ?_)
  refine sq_val (v_move hF rfl) hF (by decide) (fun a hF => ?_)
  obtain ⟨x5, h, hk7⟩ := bindS h
  refine sq_cut 4 (fun a W => FH 51 [(0, .slice A0_0 ((u0).length) c0_0), (1, .slice A1_0 ((u1).length) c1_0), (20, .bool x5)] a ∧ St M w0 [] [] [fSl k_TCube A0_0 c0_0 u0, fSl k_TCube A1_0 c1_0 u1] W) (fun a W hJ => ?_) ?_
  ·
    have h := hk7
    obtain ⟨hF, hS⟩ := hJ
    refine sq_nil ?_
    refine then_n ?_
    refine wp_if hF rfl (fun he11 => ?_) (fun he11 => ?_)
    ·
      replace h := ifT he11 h
      refine wp_seq ?_
      refine wp_reg ?_
      refine sq_val (v_assign hF rfl) hF (by decide) (fun a hF => ?_)
      refine sq_val (v_assign hF rfl) hF (by decide) (fun a hF => ?_)
      refine sq_nil ?_
      refine then_n ?_
      refine wp_ret ?_
      refine then_r ?_
      have hS := hS.addNil k_TCube 26
      obtain rfl := Option.some.inj h
      exact ret2 hF rfl (rv_tmp hF rfl) (rv_tmp hF rfl) ⟨_, rfl, none, 0, rfl, (hS.keep (List.Sublist.refl _) (List.Sublist.refl _) trivial)⟩
    ·
      replace h := ifF he11 h
      refine wp_skip ?_
      refine then_n ?_
      refine wp_seq ?_
      refine wp_reg ?_
      refine sq_val (v_move hF rfl) hF (by decide) (fun a hF => ?_)
      obtain ⟨x12, hx13, h⟩ := bindS h
      refine sq_call hF pc37 rfl (by decide) (ok_space_Lean k (hS.enter ⟨⟨0, rfl⟩, trivial⟩) hx13) (fun v W hR a hF => ?_)
      obtain ⟨A14, c15, rfl, hT16⟩ := hR
      have hS := hS.join hT16
      refine sq_val (v_assign hF rfl) hF (by decide) (fun a hF => ?_)
      refine sq_nil ?_
      refine then_n ?_
      refine wp_seq ?_
      refine wp_seq ?_
      refine wp_reg ?_
      refine sq_val (v_move hF rfl) hF (by decide) (fun a hF => ?_)
      refine sq_val (v_len hF rfl pu29) hF (by decide) (fun a hF => ?_)
      refine sq_val (v_move hF rfl) hF (by decide) (fun a hF => ?_)
      refine sq_nil ?_
      refine then_n ?_
      obtain ⟨o28, h, hk29⟩ := bindS h
      refine wp_join (fun a W => ∃ (x25 : List TCube) (A26 : Option Addr) (c27 : Nat), Lo.brk x25 = o28 ∧ FH 51 [(6, .slice A26 ((x25).length) c27)] a ∧ St M w0 [] [⟨k_TCube, 26, A26, c27, x25⟩] [] W) (fun a W hJ => ?_) ?_
      ·
        obtain ⟨x25, A26, c27, rfl, hF, hS⟩ := hJ
        have h := hk29
        dsimp only at h
        refine then_n ?_
        refine wp_seq ?_
        refine wp_reg ?_
        refine sq_val (v_move hF rfl) hF (by decide) (fun a hF => ?_)
        refine sq_val (v_assign hF rfl) hF (by decide) (fun a hF => ?_)
        refine sq_val (v_assign hF rfl) hF (by decide) (fun a hF => ?_)
        refine sq_nil ?_
        refine then_n ?_
        refine wp_ret ?_
        obtain rfl := Option.some.inj h
        exact ret2 hF rfl (rv_tmp hF rfl) (rv_tmp hF rfl) ⟨_, rfl, A26, c27, rfl, hS⟩
      ·
        refine wp_block ?_
        refine wp_loop_fuel (I := fun m a W => ∃ (x21 : List TCube) (x24 : Int) (A22 : Option Addr) (c23 : Nat), FH 51 [(6, .slice A22 ((x21).length) c23), (23, .slice A1_0 ((u1).length) c1_0), (24, .int .i64 ((u1.length : Int))), (25, .int .i64 (x24))] a ∧ St M w0 [] [⟨k_TCube, 26, A22, c23, x21⟩] [fSl k_TCube A1_0 c1_0 u1] W ∧ (space_Less.l0 k u1 m x21 x24) = some o28) ?_ (k := k) ⟨x12, 0, A14, c15, (hF.keep ⟨rfl, rfl, rfl, rfl, trivial⟩), (hS.keep (List.Sublist.refl _) (List.Sublist.refl _) ⟨⟨1, rfl⟩, trivial⟩), h⟩
        rintro m30 a W ⟨x21, x24, A22, c23, hF, hS, h⟩
        cases m30 with
        | zero => cases h
        | succ m30 =>
          rw [space_Less.l0] at h
          refine wp_seq ?_
          refine wp_reg ?_
          refine sq_val (v_lss hF rfl rfl) hF (by decide) (fun a hF => ?_)
          refine sq_nil ?_
          refine then_n ?_
          refine wp_seq ?_
          refine wp_if hF rfl (fun he31 => ?_) (fun he31 => ?_)
          ·
            replace h := ifT he31 h
            refine wp_skip ?_
            refine then_n ?_
            refine wp_seq ?_
            refine wp_block ?_
            refine wp_seq ?_
            refine wp_reg ?_
            obtain ⟨x32, hx33, h⟩ := bindS h
            obtain ⟨p34, cs35, hA36, hat37⟩ := SlR.at (hS.fc (i := 0) rfl) hx33
            obtain rfl : cs35 = TCube.enc x32 := hat37.2.2.2
            have hS := hS.addFact (f := fAt k_TCube (p34.add (x24.toNat * 24)) (TCube.enc x32) x32) hat37
            refine sq_val (v_idx hF rfl hA36 rfl psl29 hx33) hF (by decide) (fun a hF => ?_)
            refine sq_val (v_load (cs := TCube.enc x32) hF rfl pa26 ps26 (hS.pc (i := 0) rfl)) hF (by decide) (fun a hF => ?_)
            refine sq_alloc hF hS pz26 rfl (by decide) (fun b38 a W hF hS => ?_)
            refine sq_store (o := 0) (vs := TCube.enc x32) (cs' := TCube.enc x32) hF hS rfl rfl (i := 0) rfl rfl rfl ps26 (TCube.enc_one _) (Nat.le_of_ble_eq_true rfl) rfl (fun W hS => ?_)
            refine sq_nil ?_
            refine then_n ?_
            refine wp_seq ?_
            refine wp_reg ?_
            refine sq_val (v_assign hF rfl) hF (by decide) (fun a hF => ?_)
            refine sq_nil ?_
            refine then_n ?_
            refine wp_seq ?_
            refine wp_seq ?_
            refine wp_reg ?_
            refine sq_val (v_move hF rfl) hF (by decide) (fun a hF => ?_)
            refine sq_val (v_len hF rfl pu29) hF (by decide) (fun a hF => ?_)
            refine sq_val (v_move hF rfl) hF (by decide) (fun a hF => ?_)
            refine sq_nil ?_
            refine then_n ?_
            obtain ⟨o50, h, hk51⟩ := bindS h
            refine wp_join (fun a W => ∃ (x47 : List TCube) (A48 : Option Addr) (c49 : Nat), x47 = o50 ∧ FH 51 [(9, .slice A48 ((x47).length) c49), (23, .slice A1_0 ((u1).length) c1_0), (24, .int .i64 ((u1.length : Int))), (25, .int .i64 (x24))] a ∧ St M w0 [] [⟨k_TCube, 26, A48, c49, x47⟩] [fSl k_TCube A1_0 c1_0 u1] W) (fun a W hJ => ?_) ?_
            ·
              obtain ⟨x47, A48, c49, rfl, hF, hS⟩ := hJ
              have h := hk51
              refine then_n ?_
              refine wp_seq ?_
              refine wp_reg ?_
              refine sq_val (v_assign hF rfl) hF (by decide) (fun a hF => ?_)
              refine sq_nil ?_
              refine then_n ?_
              refine wp_seq ?_
              refine wp_reg ?_
              refine sq_val (v_move hF rfl) hF (by decide) (fun a hF => ?_)
              have hS := hS.freeze (i := 0) rfl (posB rfl)
              obtain ⟨x52, hx53, h⟩ := bindS h
              refine sq_call hF pc103 rfl (by decide) (ok_space_lean k (hS.enter ⟨⟨0, rfl⟩, trivial⟩) hx53) (fun v W hR a hF => ?_)
              obtain ⟨A54, c55, rfl, hT56⟩ := hR
              have hS := hS.join hT56
              refine sq_val (v_move hF rfl) hF (by decide) (fun a hF => ?_)
              refine sq_val (v_extract hF rfl rfl) hF (by decide) (fun a hF => ?_)
              refine sq_val (v_extract hF rfl rfl) hF (by decide) (fun a hF => ?_)
              refine sq_val (v_assign hF rfl) hF (by decide) (fun a hF => ?_)
              refine sq_val (v_assign hF rfl) hF (by decide) (fun a hF => ?_)
              refine sq_nil ?_
              refine then_n ?_
              refine wp_seq ?_
              refine wp_reg ?_
              refine sq_val (v_move hF rfl) hF (by decide) (fun a hF => ?_)
              refine sq_val (v_neq hF rfl rfl) hF (by decide) (fun a hF => ?_)
              refine sq_nil ?_
              refine then_n ?_
              refine wp_if hF rfl (fun he57 => ?_) (fun he57 => ?_)
              ·
                replace h := ifT he57 h
                refine wp_seq ?_
                refine wp_reg ?_
                refine sq_val (v_move hF rfl) hF (by decide) (fun a hF => ?_)
                refine sq_val (v_assign hF rfl) hF (by decide) (fun a hF => ?_)
                refine sq_val (v_assign hF rfl) hF (by decide) (fun a hF => ?_)
                refine sq_nil ?_
                refine then_n ?_
                refine wp_ret ?_
                refine blk_r ?_
                refine then_r ?_
                refine then_r ?_
                refine blk_r ?_
                refine then_r ?_
                refine then_r ?_
                have hS := hS.addNil k_TCube 26
                obtain rfl := Option.some.inj h
                have h := hk29
                dsimp only at h
                obtain rfl := Option.some.inj h
                exact ret2 hF rfl (rv_tmp hF rfl) (rv_tmp hF rfl) ⟨_, rfl, none, 0, rfl, (hS.keep (List.Sublist.refl _) (.cons_cons _ (List.nil_sublist _)) trivial)⟩
              ·
                replace h := ifF he57 h
                refine wp_skip ?_
                refine blk_n ?_
                refine then_n ?_
                refine wp_reg ?_
                refine sq_val (v_add hF rfl rfl) hF (by decide) (fun a hF => ?_)
                refine sq_val (v_move hF rfl) hF (by decide) (fun a hF => ?_)
                refine sq_nil ?_
                exact then_j ⟨m30, Nat.lt_succ_self _, x52.1, (IntKind.i64.wrap (x24 + 1)), A54, c55, (hF.keep ⟨rfl, rfl, rfl, rfl, trivial⟩), (hS.keep (List.Sublist.refl _) (List.Sublist.refl _) ⟨⟨1, rfl⟩, trivial⟩), h⟩
            ·
              have hS := hS.addNil k_TCube 26
              refine wp_block ?_
              refine wp_loop_fuel (I := fun m a W => ∃ (x43 : List TCube) (x46 : Int) (A44 : Option Addr) (c45 : Nat), FH 51 [(8, .pointer (some (⟨b38, 0, none⟩))), (9, .slice A44 ((x43).length) c45), (23, .slice A1_0 ((u1).length) c1_0), (24, .int .i64 ((u1.length : Int))), (25, .int .i64 (x24)), (29, .slice A22 ((x21).length) c23), (30, .int .i64 ((x21.length : Int))), (31, .int .i64 (x46))] a ∧ St M w0 [⟨b38, TCube.enc x32, 26⟩] [⟨k_TCube, 26, A44, c45, x43⟩, ⟨k_TCube, 26, A22, c23, x21⟩] [fSl k_TCube A1_0 c1_0 u1] W ∧ (space_Less.l1 k x21 x32 m x43 x46) = some o50) ?_ (k := k) ⟨([]), 0, none, 0, (hF.keep ⟨rfl, rfl, rfl, rfl, rfl, rfl, rfl, rfl, trivial⟩), (hS.keep (List.Sublist.refl _) (List.Sublist.refl _) ⟨⟨1, rfl⟩, trivial⟩), h⟩
              rintro m58 a W ⟨x43, x46, A44, c45, hF, hS, h⟩
              cases m58 with
              | zero => cases h
              | succ m58 =>
                rw [space_Less.l1] at h
                refine wp_seq ?_
                refine wp_reg ?_
                refine sq_val (v_lss hF rfl rfl) hF (by decide) (fun a hF => ?_)
                refine sq_nil ?_
                refine then_n ?_
                refine wp_seq ?_
                refine wp_if hF rfl (fun he59 => ?_) (fun he59 => ?_)
                ·
                  replace h := ifT he59 h
                  refine wp_skip ?_
                  refine then_n ?_
                  refine wp_seq ?_
                  refine wp_block ?_
                  refine wp_seq ?_
                  refine wp_reg ?_
                  obtain ⟨x60, hx61, h⟩ := bindS h
                  obtain ⟨p62, cs63, hA64, hc66, hr67⟩ := Row.ok.at (hS.rw_ (i := 1) rfl) hx61
                  obtain rfl : cs63 = TCube.enc x60 := hr67
                  refine sq_val (v_idx hF rfl hA64 rfl psl29 hx61) hF (by decide) (fun a hF => ?_)
                  refine sq_val (v_load (cs := TCube.enc x60) hF rfl pa26 ps26 hc66) hF (by decide) (fun a hF => ?_)
                  refine sq_alloc hF hS pz26 rfl (by decide) (fun b68 a W hF hS => ?_)
                  refine sq_store (o := 0) (vs := TCube.enc x60) (cs' := TCube.enc x60) hF hS rfl rfl (i := 0) rfl rfl rfl ps26 (TCube.enc_one _) (Nat.le_of_ble_eq_true rfl) rfl (fun W hS => ?_)
                  refine sq_nil ?_
                  refine then_n ?_
                  refine wp_reg ?_
                  refine sq_val (v_move hF rfl) hF (by decide) (fun a hF => ?_)
                  refine sq_val (v_load (cs := TCube.enc x60) hF rfl pa26 ps26 (hS.bc (i := 0) rfl)) hF (by decide) (fun a hF => ?_)
                  refine sq_val (v_load (cs := TCube.enc x32) hF rfl pa26 ps26 (hS.bc (i := 1) rfl)) hF (by decide) (fun a hF => ?_)
                  obtain ⟨x69, hx70, h⟩ := bindS h
                  refine sq_call hF pc14 rfl (by decide) (ok_cube_Less k (hS.enter trivial) hx70) (fun v W hR a hF => ?_)
                  obtain ⟨A71, c72, rfl, hT73⟩ := hR
                  have hS := hS.join hT73
                  obtain ⟨x76, hx77, h⟩ := bindS h
                  refine sq_append (ys := x69) hF hS (i := 1) rfl rfl rfl (hS.rw_ (i := 0) rfl).src psl29 pb26 pz26 rfl (by decide) (by decide) hx77 (by decide) (fun A74 c75 a W hF hS => ?_)
                  refine sq_val (v_assign hF rfl) hF (by decide) (fun a hF => ?_)
                  refine sq_nil ?_
                  refine blk_n ?_
                  refine then_n ?_
                  refine wp_reg ?_
                  refine sq_val (v_add hF rfl rfl) hF (by decide) (fun a hF => ?_)
                  refine sq_val (v_move hF rfl) hF (by decide) (fun a hF => ?_)
                  refine sq_nil ?_
                  exact then_j ⟨m58, Nat.lt_succ_self _, x76, (IntKind.i64.wrap (x46 + 1)), A74, c75, (hF.keep ⟨rfl, rfl, rfl, rfl, rfl, rfl, rfl, rfl, trivial⟩), (hS.keep (.cons _ (List.Sublist.refl _)) (.cons _ (List.Sublist.refl _)) ⟨⟨0, rfl⟩, trivial⟩), h⟩
                ·
                  replace h := ifF he59 h
                  refine wp_exit ?_
                  refine then_x ?_
                  refine then_x ?_
                  refine blk_hit ?_
                  obtain rfl := Option.some.inj h
                  exact then_j ⟨x43, A44, c45, rfl, (hF.keep ⟨rfl, rfl, rfl, rfl, trivial⟩), (hS.keep (List.nil_sublist _) (.cons_cons _ (List.nil_sublist _)) ⟨⟨0, rfl⟩, trivial⟩)⟩
          ·
            replace h := ifF he31 h
            refine wp_exit ?_
            refine then_x ?_
            refine then_x ?_
            refine blk_hit ?_
            obtain rfl := Option.some.inj h
            exact then_j ⟨x21, A22, c23, rfl, (hF.keep ⟨rfl, trivial⟩), (hS.keep (List.Sublist.refl _) (List.Sublist.refl _) trivial)⟩
  ·
    by_cases he4 : (!x1) = true
    ·
      replace h := ifT he4 h
      refine sq_no hF rfl rfl he4 (by rintro x ⟨⟩; decide) (fun a hF => ?_)
      refine sq_no hF rfl rfl he4 (by rintro x ⟨⟩; decide) (fun a hF => ?_)
      refine sq_no hF rfl rfl he4 (by rintro x ⟨⟩; decide) (fun a hF => ?_)
      refine sq_val (v_pick_t hF rfl he4 rfl) hF (by decide) (fun a hF => ?_)
      obtain rfl := Option.some.inj h
      exact sq_nil (then_j ⟨(hF.keep ⟨rfl, rfl, rfl, trivial⟩), hS⟩)
    ·
      have he4 : (!x1) = false := nB he4
      replace h := ifF he4 h
      refine sq_yes hF rfl rfl he4 ?_
      refine sq_val (v_move hF rfl) hF (by decide) (fun a hF => ?_)
      refine sq_yes hF rfl rfl he4 ?_
      obtain ⟨x8, hx9, h⟩ := bindS h
      refine sq_call hF pc38 rfl (by decide) (ok_space_Sound k (hS.enter ⟨⟨1, rfl⟩, trivial⟩) hx9) (fun v W hR a hF => ?_)
      obtain ⟨rfl, hT10⟩ := hR
      have hS := hS.grow hT10.below
      refine sq_yes hF rfl rfl he4 ?_
      refine sq_val (v_not hF rfl) hF (by decide) (fun a hF => ?_)
      refine sq_val (v_pick_f hF rfl he4 rfl) hF (by decide) (fun a hF => ?_)
      obtain rfl := Option.some.inj h
      exact sq_nil (then_j ⟨(hF.keep ⟨rfl, rfl, rfl, trivial⟩), hS⟩)

theorem ok_space_Within (k : Nat) {M : Nat → Prop} {w0 : World} {u0 : List TCube} {A0_0 : Option Addr} {c0_0 : Nat} {u1 : List TCube} {A1_0 : Option Addr} {c1_0 : Nat} {o : Bool × Int} (hS : St M w0 [] [] [fSl k_TCube A0_0 c0_0 u0, fSl k_TCube A1_0 c1_0 u1] w0) (h : space_Within k u0 u1 = some o) :
    Calls Try.prog 44 #[.slice A0_0 ((u0).length) c0_0, .slice A1_0 ((u1).length) c1_0] w0 fun e W' => ∃ v, e = .returned v ∧ (v = .tuple #[.bool (o.1), .int .i64 (o.2)] ∧ St M w0 [] [] [] W') := by
  unfold space_Within at h
  refine calls_start (args := [.slice A0_0 ((u0).length) c0_0, .slice A1_0 ((u1).length) c1_0]) Try.func44 rfl rfl (Nat.le_of_ble_eq_true rfl) (fun a hF => ?_)
  refine wp_seq ?_
  refine wp_reg ?_
  refine sq_val (v_assign hF rfl) hF (by decide) (fun a hF => ?_)
  refine sq_val (v_assign hF rfl) hF (by decide) (fun a hF => ?_)
  refine sq_nil ?_
  refine then_n ?_
  refine wp_seq ?_
  refine wp_reg ?_
  refine sq_val (v_move hF rfl) hF (by decide) (fun a hF => ?_)
  refine sq_val (v_move hF rfl) hF (by decide) (fun a hF => ?_)
  obtain ⟨x1, hx2, h⟩ := bindS h
  refine sq_call hF pc43 rfl (by decide) (ok_space_Less k (hS.enter ⟨⟨0, rfl⟩, ⟨1, rfl⟩, trivial⟩) hx2) (fun v W hR a hF => ?_)
  obtain ⟨A3, c4, rfl, hT5⟩ := hR
  have hS := hS.join hT5
  refine sq_val (v_move hF rfl) hF (by decide) (fun a hF => ?_)
  refine sq_val (v_extract hF rfl rfl) hF (by decide) (fun a hF => ?_)
  refine sq_val (v_extract hF rfl rfl) hF (by decide) (fun a hF => ?_)
  refine sq_val (v_assign hF rfl) hF (by decide) (fun a hF => ?_)
  refine sq_val (v_assign hF rfl) hF (by decide) (fun a hF => ?_)
  refine sq_nil ?_
  refine then_n ?_
  refine wp_seq ?_
  refine wp_reg ?_
  refine sq_val (v_move hF rfl) hF (by decide) (fun a hF => ?_)
  refine sq_val (v_eql hF rfl rfl) hF (by decide) (fun a hF => ?_)
  refine sq_val (v_move hF rfl) hF (by decide) (fun a hF => ?_)
  refine sq_cut 4 (fun a W => FH 22 [(7, .int .i64 (x1.2)), (20, .bool ((x1.2 == 0) && ((x1.1.length : Int) == 0)))] a ∧ St M w0 [] [⟨k_TCube, 26, A3, c4, x1.1⟩] [fSl k_TCube A0_0 c0_0 u0, fSl k_TCube A1_0 c1_0 u1] W) (fun a W hJ => ?_) ?_
  ·
    obtain ⟨hF, hS⟩ := hJ
    refine sq_val (v_move hF rfl) hF (by decide) (fun a hF => ?_)
    refine sq_val (v_assign hF rfl) hF (by decide) (fun a hF => ?_)
    refine sq_val (v_assign hF rfl) hF (by decide) (fun a hF => ?_)
    refine sq_nil ?_
    refine then_n ?_
    refine wp_ret ?_
    obtain rfl := Option.some.inj h
    exact ret2 hF rfl (rv_tmp hF rfl) (rv_tmp hF rfl) ⟨_, rfl, rfl, (hS.keep (List.Sublist.refl _) (List.nil_sublist _) trivial)⟩
  ·
    by_cases he6 : (x1.2 == 0) = true
    ·
      refine sq_yes hF rfl rfl he6 ?_
      refine sq_val (v_move hF rfl) hF (by decide) (fun a hF => ?_)
      refine sq_yes hF rfl rfl he6 ?_
      refine sq_val (v_len hF rfl pu29) hF (by decide) (fun a hF => ?_)
      refine sq_yes hF rfl rfl he6 ?_
      refine sq_val (v_eql hF rfl rfl) hF (by decide) (fun a hF => ?_)
      refine sq_val (v_pick_t hF rfl he6 rfl) hF (by decide) (fun a hF => ?_)
      exact sq_nil (then_j ⟨(hF.keep ⟨rfl, (boolV (and_t he6)), trivial⟩), hS⟩)
    ·
      have he6 : (x1.2 == 0) = false := nB he6
      refine sq_no hF rfl rfl he6 (by rintro x ⟨⟩; decide) (fun a hF => ?_)
      refine sq_no hF rfl rfl he6 (by rintro x ⟨⟩; decide) (fun a hF => ?_)
      refine sq_no hF rfl rfl he6 (by rintro x ⟨⟩; decide) (fun a hF => ?_)
      refine sq_val (v_pick_f hF rfl he6 rfl) hF (by decide) (fun a hF => ?_)
      exact sq_nil (then_j ⟨(hF.keep ⟨rfl, (boolV (and_f he6)), trivial⟩), hS⟩)
end Go.Proofs.Ytangebngeeamoaa
