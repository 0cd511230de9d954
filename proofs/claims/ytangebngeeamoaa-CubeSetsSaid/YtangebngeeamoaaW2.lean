/- What calls of the Go functions come to. -/
import Derived.Test.YtangebngeeamoaaW1
set_option linter.unusedVariables false
set_option linter.unusedSimpArgs false
set_option maxRecDepth 100000
set_option maxHeartbeats 4000000
namespace Go.Proofs.Ytangebngeeamoaa
open Go.RowKit Go.Pod
theorem ok_ref01_Meet (k : Nat) {M : Nat → Prop} {w0 : World} {u0 : TCube} {u1 : TCube} {o : TCube × Bool} (hS : St M w0 [] [] [] w0) (h : ref01_Meet k u0 u1 = some o) :
    Calls Try.prog 13 #[.agg (TCube.enc u0).toArray, .agg (TCube.enc u1).toArray] w0 fun e W' => ∃ v, e = .returned v ∧ (v = .tuple #[.agg (TCube.enc o.1).toArray, .bool (o.2)] ∧ St M w0 [] [] [] W') := by
  unfold ref01_Meet at h
  refine calls_start (args := [.agg (TCube.enc u0).toArray, .agg (TCube.enc u1).toArray]) Try.func13 rfl rfl (Nat.le_of_ble_eq_true rfl) (fun a hF => ?_)
  refine wp_seq ?_
  refine wp_reg ?_
  refine sq_box hF hS rfl rfl (by decide) (fun b1 a W hF hS => ?_)
  refine sq_box hF hS rfl rfl (by decide) (fun b2 a W hF hS => ?_)
  refine sq_alloc hF hS pz26 rfl (by decide) (fun b3 a W hF hS => ?_)
  refine sq_val (v_assign hF rfl) hF (by decide) (fun a hF => ?_)
  refine sq_nil ?_
  refine then_n ?_
  refine wp_seq ?_
  refine wp_reg ?_
  refine sq_val (v_load (cs := TCube.enc u0) hF rfl pa26 ps26 (hS.bc (i := 2) rfl)) hF (by decide) (fun a hF => ?_)
  obtain ⟨x4, hx5, h⟩ := bindS h
  refine sq_call hF pc55 rfl (by decide) (ok_ref01_Text k (hS.enter trivial) hx5) (fun v W hR a hF => ?_)
  obtain ⟨rfl, hT6⟩ := hR
  have hS := hS.grow hT6.below
  refine sq_val (v_move hF rfl) hF (by decide) (fun a hF => ?_)
  refine sq_val (v_extract hF rfl rfl) hF (by decide) (fun a hF => ?_)
  refine sq_val (v_extract hF rfl rfl) hF (by decide) (fun a hF => ?_)
  refine sq_val (v_assign hF rfl) hF (by decide) (fun a hF => ?_)
  refine sq_val (v_assign hF rfl) hF (by decide) (fun a hF => ?_)
  refine sq_nil ?_
  refine then_n ?_
  refine wp_seq ?_
  refine wp_reg ?_
  refine sq_val (v_load (cs := TCube.enc u1) hF rfl pa26 ps26 (hS.bc (i := 1) rfl)) hF (by decide) (fun a hF => ?_)
  obtain ⟨x7, hx8, h⟩ := bindS h
  refine sq_call hF pc55 rfl (by decide) (ok_ref01_Text k (hS.enter trivial) hx8) (fun v W hR a hF => ?_)
  obtain ⟨rfl, hT9⟩ := hR
  have hS := hS.grow hT9.below
  refine sq_val (v_move hF rfl) hF (by decide) (fun a hF => ?_)
  refine sq_val (v_extract hF rfl rfl) hF (by decide) (fun a hF => ?_)
  refine sq_val (v_extract hF rfl rfl) hF (by decide) (fun a hF => ?_)
  refine sq_val (v_assign hF rfl) hF (by decide) (fun a hF => ?_)
  refine sq_val (v_assign hF rfl) hF (by decide) (fun a hF => ?_)
  refine sq_nil ?_
  refine then_n ?_
  refine wp_seq ?_
  refine wp_seq ?_
  refine wp_reg ?_
  refine sq_val (v_move hF rfl) hF (by decide) (fun a hF => ?_)
  refine sq_val (v_not hF rfl) hF (by decide) (fun a hF => ?_)
  refine sq_val (v_move hF rfl) hF (by decide) (fun a hF => ?_)
  refine sq_cut 3 (fun a W => FH 64 [(4, .pointer (some (⟨b3, 0, none⟩))), (6, .string (x4.1)), (8, .string (x7.1)), (27, .bool ((!x4.2) || (!x7.2)))] a ∧ St M w0 [⟨b3, TCube.enc TCube.zero, 26⟩, ⟨b2, TCube.enc u1, 26⟩, ⟨b1, TCube.enc u0, 26⟩] [] [] W) (fun a W hJ => ?_) ?_
  ·
    obtain ⟨hF, hS⟩ := hJ
    refine sq_nil ?_
    refine then_n ?_
    refine wp_if hF rfl (fun he11 => ?_) (fun he11 => ?_)
    ·
      replace h := ifT he11 h
      refine wp_seq ?_
      refine wp_reg ?_
      refine sq_val (v_build (parts := []) (out := TCube.enc TCube.zero) hF rfl rfl pz26 rfl pp26 rfl) hF (by decide) (fun a hF => ?_)
      refine sq_store (o := 0) (vs := TCube.enc TCube.zero) (cs' := TCube.enc TCube.zero) hF hS rfl rfl (i := 0) rfl rfl rfl ps26 (TCube.enc_one _) (Nat.le_of_ble_eq_true rfl) rfl (fun W hS => ?_)
      refine sq_val (v_assign hF rfl) hF (by decide) (fun a hF => ?_)
      refine sq_nil ?_
      refine then_n ?_
      refine wp_ret ?_
      refine then_r ?_
      obtain rfl := Option.some.inj h
      exact ret2 hF rfl (rv_cell (cs := TCube.enc TCube.zero) hF rfl pa26 ps26 (hS.bc (i := 0) rfl)) (rv_tmp hF rfl) ⟨_, rfl, rfl, (hS.keep (List.nil_sublist _) (List.Sublist.refl _) trivial)⟩
    ·
      replace h := ifF he11 h
      refine wp_skip ?_
      refine then_n ?_
      refine wp_seq ?_
      refine wp_reg ?_
      refine sq_val (v_move hF rfl) hF (by decide) (fun a hF => ?_)
      obtain ⟨x12, hx13, h⟩ := bindS h
      refine sq_toBytes hF hS rfl pu9 pu82 pu5 hx13 (by decide) (fun A14 c15 a W hF hS => ?_)
      refine sq_val (v_assign hF rfl) hF (by decide) (fun a hF => ?_)
      refine sq_nil ?_
      refine then_n ?_
      refine wp_seq ?_
      refine wp_seq ?_
      refine wp_reg ?_
      refine sq_val (v_assign hF rfl) hF (by decide) (fun a hF => ?_)
      refine sq_nil ?_
      refine then_n ?_
      obtain ⟨o28, h, hk29⟩ := bindS h
      refine wp_join (fun a W => ∃ (x25 : List Int) (A26 : Option Addr) (c27 : Nat), Lo.brk x25 = o28 ∧ FH 64 [(4, .pointer (some (⟨b3, 0, none⟩))), (10, .slice A26 (x25).length c27)] a ∧ St M w0 [⟨b3, TCube.enc TCube.zero, 26⟩] [⟨(kInt .u8), 5, A26, c27, x25⟩] [] W) (fun a W hJ => ?_) ?_
      ·
        obtain ⟨x25, A26, c27, rfl, hF, hS⟩ := hJ
        have h := hk29
        dsimp only at h
        refine then_n ?_
        refine wp_seq ?_
        refine wp_reg ?_
        refine sq_val (v_move hF rfl) hF (by decide) (fun a hF => ?_)
        refine sq_val (v_toStr hF rfl (hS.rw_ (i := 0) rfl).src pu82 pu5 pu9) hF (by decide) (fun a hF => ?_)
        obtain ⟨x30, hx31, h⟩ := bindS h
        refine sq_call hF pc56 rfl (by decide) (ok_ref01_From k (hS.enter trivial) hx31) (fun v W hR a hF => ?_)
        obtain ⟨rfl, hT32⟩ := hR
        have hS := hS.grow hT32.below
        refine sq_store (o := 0) (vs := TCube.enc x30) (cs' := TCube.enc x30) hF hS rfl rfl (i := 0) rfl rfl rfl ps26 (TCube.enc_one _) (Nat.le_of_ble_eq_true rfl) rfl (fun W hS => ?_)
        refine sq_val (v_assign hF rfl) hF (by decide) (fun a hF => ?_)
        refine sq_nil ?_
        refine then_n ?_
        refine wp_ret ?_
        obtain rfl := Option.some.inj h
        exact ret2 hF rfl (rv_cell (cs := TCube.enc x30) hF rfl pa26 ps26 (hS.bc (i := 0) rfl)) (rv_tmp hF rfl) ⟨_, rfl, rfl, (hS.keep (List.nil_sublist _) (List.nil_sublist _) trivial)⟩
      ·
        refine wp_block ?_
        refine wp_loop_fuel (I := fun m a W => ∃ (x21 : List Int) (x24 : Int) (A22 : Option Addr) (c23 : Nat), FH 64 [(4, .pointer (some (⟨b3, 0, none⟩))), (6, .string (x4.1)), (8, .string (x7.1)), (10, .slice A22 (x21).length c23), (11, .int .i64 (x24))] a ∧ St M w0 [⟨b3, TCube.enc TCube.zero, 26⟩] [⟨(kInt .u8), 5, A22, c23, x21⟩] [] W ∧ (ref01_Meet.l0 k x4 x7 m x21 x24) = some o28) ?_ (k := k) ⟨x12, 0, A14, c15, (hF.keep ⟨rfl, rfl, rfl, rfl, rfl, trivial⟩), (hS.keep (.cons_cons _ (List.nil_sublist _)) (List.Sublist.refl _) trivial), h⟩
        rintro m33 a W ⟨x21, x24, A22, c23, hF, hS, h⟩
        cases m33 with
        | zero => cases h
        | succ m33 =>
          rw [ref01_Meet.l0] at h
          refine wp_seq ?_
          refine wp_seq ?_
          refine wp_reg ?_
          refine sq_val (v_move hF rfl) hF (by decide) (fun a hF => ?_)
          refine sq_val (v_move hF rfl) hF (by decide) (fun a hF => ?_)
          refine sq_val (v_lenS hF rfl pu9) hF (by decide) (fun a hF => ?_)
          refine sq_val (v_lss hF rfl rfl) hF (by decide) (fun a hF => ?_)
          refine sq_nil ?_
          refine then_n ?_
          refine wp_if hF rfl (fun he34 => ?_) (fun he34 => ?_)
          ·
            replace h := ifT he34 h
            refine wp_skip ?_
            refine then_n ?_
            refine wp_seq ?_
            obtain ⟨o38, h, hk39⟩ := bindS h
            refine wp_join (fun a W => ∃ (x35 : List Int) (A36 : Option Addr) (c37 : Nat), Lo.brk x35 = o38 ∧ FH 64 [(4, .pointer (some (⟨b3, 0, none⟩))), (6, .string (x4.1)), (8, .string (x7.1)), (10, .slice A36 (x35).length c37), (11, .int .i64 (x24))] a ∧ St M w0 [⟨b3, TCube.enc TCube.zero, 26⟩] [⟨(kInt .u8), 5, A36, c37, x35⟩] [] W) (fun a W hJ => ?_) ?_
            ·
              obtain ⟨x35, A36, c37, rfl, hF, hS⟩ := hJ
              have h := hk39
              dsimp only at h
              refine then_n ?_
              refine wp_reg ?_
              refine sq_val (v_move hF rfl) hF (by decide) (fun a hF => ?_)
              refine sq_val (v_add hF rfl rfl) hF (by decide) (fun a hF => ?_)
              refine sq_val (v_assign hF rfl) hF (by decide) (fun a hF => ?_)
              refine sq_nil ?_
              exact then_j ⟨m33, Nat.lt_succ_self _, x35, (IntKind.i64.wrap (x24 + 1)), A36, c37, (hF.keep ⟨rfl, rfl, rfl, rfl, rfl, trivial⟩), hS, h⟩
            ·
              refine wp_block ?_
              refine wp_seq ?_
              refine wp_reg ?_
              refine sq_val (v_move hF rfl) hF (by decide) (fun a hF => ?_)
              refine sq_val (v_move hF rfl) hF (by decide) (fun a hF => ?_)
              obtain ⟨hb40, h⟩ := ifS h
              refine sq_val (v_indexStr hF rfl rfl pu9 hb40.1 hb40.2) hF (by decide) (fun a hF => ?_)
              refine sq_val (v_eql hF rfl rfl) hF (by decide) (fun a hF => ?_)
              refine sq_nil ?_
              refine then_n ?_
              obtain ⟨o44, h, hk45⟩ := bindS h
              refine wp_join (fun a W => ∃ (x41 : List Int) (A42 : Option Addr) (c43 : Nat), Lo.brk x41 = o44 ∧ FH 64 [(4, .pointer (some (⟨b3, 0, none⟩))), (6, .string (x4.1)), (8, .string (x7.1)), (10, .slice A42 (x41).length c43), (11, .int .i64 (x24))] a ∧ St M w0 [⟨b3, TCube.enc TCube.zero, 26⟩] [⟨(kInt .u8), 5, A42, c43, x41⟩] [] W) (fun a W hJ => ?_) ?_
              ·
                obtain ⟨x41, A42, c43, rfl, hF, hS⟩ := hJ
                have h := hk45
                dsimp only at h
                refine blk_n ?_
                obtain rfl := Option.some.inj h
                exact then_j ⟨x41, A42, c43, rfl, (hF.keep ⟨rfl, rfl, rfl, rfl, rfl, trivial⟩), hS⟩
              ·
                refine wp_if hF rfl (fun he46 => ?_) (fun he46 => ?_)
                ·
                  replace h := ifT he46 h
                  refine wp_reg ?_
                  refine sq_val (v_move hF rfl) hF (by decide) (fun a hF => ?_)
                  refine sq_val (v_move hF rfl) hF (by decide) (fun a hF => ?_)
                  refine sq_val (v_move hF rfl) hF (by decide) (fun a hF => ?_)
                  refine sq_val (v_move hF rfl) hF (by decide) (fun a hF => ?_)
                  obtain ⟨hb47, h⟩ := ifS h
                  refine sq_val (v_indexStr hF rfl rfl pu9 hb47.1 hb47.2) hF (by decide) (fun a hF => ?_)
                  obtain ⟨x48, hx49, h⟩ := bindS h
                  obtain ⟨p50, cs51, hA52, hc54, hr55⟩ := Row.ok.at (hS.rw_ (i := 0) rfl) hx49
                  obtain rfl : cs51 = [.int .u8 (x48)] := hr55
                  refine sq_val (v_idx hF rfl hA52 rfl psl82 hx49) hF (by decide) (fun a hF => ?_)
                  refine sq_storeEl hF hS (i := 0) rfl hA52 rfl hx49 rfl rfl ps5 rfl (fun W hS => ?_)
                  have hF : FH 64 [(4, .pointer (some (⟨b3, 0, none⟩))), (6, .string (x4.1)), (8, .string (x7.1)), (10, .slice A22 ((x21.set x24.toNat (byteAt x7.1 x24))).length c23), (11, .int .i64 (x24)), (31, .int .i64 (x24)), (32, .string (x4.1)), (33, .int .i64 ((x4.1.size : Int))), (34, .bool ((decide (x24 < (x4.1.size : Int))))), (37, .string (x4.1)), (38, .int .i64 (x24)), (39, .int .u8 ((byteAt x4.1 x24))), (40, .bool (((byteAt x4.1 x24) == 120))), (41, .slice A22 ((x21.set x24.toNat (byteAt x7.1 x24))).length c23), (42, .int .i64 (x24)), (43, .string (x7.1)), (44, .int .i64 (x24)), (45, .int .u8 ((byteAt x7.1 x24)))] a := (hF.keep ⟨rfl, rfl, rfl, (by simp only [List.length_set] <;> rfl), rfl, rfl, rfl, rfl, rfl, rfl, rfl, rfl, rfl, (by simp only [List.length_set] <;> rfl), rfl, rfl, rfl, rfl, trivial⟩)
                  refine sq_nil ?_
                  obtain rfl := Option.some.inj h
                  exact then_j ⟨(x21.set x24.toNat (byteAt x7.1 x24)), A22, c23, rfl, (hF.keep ⟨rfl, rfl, rfl, rfl, rfl, trivial⟩), hS⟩
                ·
                  replace h := ifF he46 h
                  refine wp_seq ?_
                  refine wp_quiet rfl (by kernel_rfl) hS ?_
                  refine qt_val (fun W hC => (v_move hF rfl)) hF (by decide) (fun a hF => ?_)
                  refine qt_val (fun W hC => (v_move hF rfl)) hF (by decide) (fun a hF => ?_)
                  obtain ⟨hb56, h⟩ := ifS h
                  refine qt_val (fun W hC => (v_indexStr hF rfl rfl pu9 hb56.1 hb56.2)) hF (by decide) (fun a hF => ?_)
                  refine qt_val (fun W hC => (v_neq hF rfl rfl)) hF (by decide) (fun a hF => ?_)
                  refine qt_val (fun W hC => (v_move hF rfl)) hF (by decide) (fun a hF => ?_)
                  refine qt_cut 8 (fun a => FH 64 [(4, .pointer (some (⟨b3, 0, none⟩))), (6, .string (x4.1)), (8, .string (x7.1)), (10, .slice A22 (x21).length c23), (11, .int .i64 (x24)), (59, .bool (((byteAt x7.1 x24) != 120) && ((byteAt x4.1 x24) != (byteAt x7.1 x24))))] a) (fun a hF => ?_) ?_
                  ·
                    refine qt_nil ?_
                    intro W hC
                    have hS := hC.2
                    refine then_n ?_
                    refine wp_if hF rfl (fun he58 => ?_) (fun he58 => ?_)
                    ·
                      replace h := ifT he58 h
                      refine wp_seq ?_
                      refine wp_reg ?_
                      refine sq_val (v_build (parts := []) (out := TCube.enc TCube.zero) hF rfl rfl pz26 rfl pp26 rfl) hF (by decide) (fun a hF => ?_)
                      refine sq_store (o := 0) (vs := TCube.enc TCube.zero) (cs' := TCube.enc TCube.zero) hF hS rfl rfl (i := 0) rfl rfl rfl ps26 (TCube.enc_one _) (Nat.le_of_ble_eq_true rfl) rfl (fun W hS => ?_)
                      refine sq_val (v_assign hF rfl) hF (by decide) (fun a hF => ?_)
                      refine sq_nil ?_
                      refine then_n ?_
                      refine wp_ret ?_
                      refine then_r ?_
                      refine blk_r ?_
                      refine then_r ?_
                      refine then_r ?_
                      refine then_r ?_
                      refine blk_r ?_
                      refine then_r ?_
                      refine then_r ?_
                      obtain rfl := Option.some.inj h
                      have h := hk45
                      dsimp only at h
                      obtain rfl := Option.some.inj h
                      have h := hk39
                      dsimp only at h
                      obtain rfl := Option.some.inj h
                      have h := hk29
                      dsimp only at h
                      obtain rfl := Option.some.inj h
                      exact ret2 hF rfl (rv_cell (cs := TCube.enc TCube.zero) hF rfl pa26 ps26 (hS.bc (i := 0) rfl)) (rv_tmp hF rfl) ⟨_, rfl, rfl, (hS.keep (List.nil_sublist _) (List.nil_sublist _) trivial)⟩
                    ·
                      replace h := ifF he58 h
                      refine wp_skip ?_
                      obtain rfl := Option.some.inj h
                      exact then_j ⟨x21, A22, c23, rfl, (hF.keep ⟨rfl, rfl, rfl, rfl, rfl, trivial⟩), hS⟩
                  ·
                    by_cases he57 : ((byteAt x7.1 x24) != 120) = true
                    ·
                      refine qt_yes hF rfl rfl he57 ?_
                      refine qt_val (fun W hC => (v_move hF rfl)) hF (by decide) (fun a hF => ?_)
                      refine qt_yes hF rfl rfl he57 ?_
                      refine qt_val (fun W hC => (v_move hF rfl)) hF (by decide) (fun a hF => ?_)
                      refine qt_yes hF rfl rfl he57 ?_
                      refine qt_val (fun W hC => (v_indexStr hF rfl rfl pu9 hb40.1 hb40.2)) hF (by decide) (fun a hF => ?_)
                      refine qt_yes hF rfl rfl he57 ?_
                      refine qt_val (fun W hC => (v_move hF rfl)) hF (by decide) (fun a hF => ?_)
                      refine qt_yes hF rfl rfl he57 ?_
                      refine qt_val (fun W hC => (v_move hF rfl)) hF (by decide) (fun a hF => ?_)
                      refine qt_yes hF rfl rfl he57 ?_
                      refine qt_val (fun W hC => (v_indexStr hF rfl rfl pu9 hb56.1 hb56.2)) hF (by decide) (fun a hF => ?_)
                      refine qt_yes hF rfl rfl he57 ?_
                      refine qt_val (fun W hC => (v_neq hF rfl rfl)) hF (by decide) (fun a hF => ?_)
                      refine qt_val (fun W hC => (v_pick_t hF rfl he57 rfl)) hF (by decide) (fun a hF => ?_)
                      exact qt_nil (hF.keep ⟨rfl, rfl, rfl, rfl, rfl, (boolV (and_t he57)), trivial⟩)
                    ·
                      have he57 : ((byteAt x7.1 x24) != 120) = false := nB he57
                      refine qt_no hF rfl rfl he57 (by decide) (fun a hF => ?_)
                      refine qt_no hF rfl rfl he57 (by decide) (fun a hF => ?_)
                      refine qt_no hF rfl rfl he57 (by decide) (fun a hF => ?_)
                      refine qt_no hF rfl rfl he57 (by decide) (fun a hF => ?_)
                      refine qt_no hF rfl rfl he57 (by decide) (fun a hF => ?_)
                      refine qt_no hF rfl rfl he57 (by decide) (fun a hF => ?_)
                      refine qt_no hF rfl rfl he57 (by decide) (fun a hF => ?_)
                      refine qt_val (fun W hC => (v_pick_f hF rfl he57 rfl)) hF (by decide) (fun a hF => ?_)
                      exact qt_nil (hF.keep ⟨rfl, rfl, rfl, rfl, rfl, (boolV (and_f he57)), trivial⟩)
          ·
            replace h := ifF he34 h
            refine wp_exit ?_
            refine then_x ?_
            refine then_x ?_
            refine blk_hit ?_
            obtain rfl := Option.some.inj h
            exact then_j ⟨x21, A22, c23, rfl, (hF.keep ⟨rfl, rfl, trivial⟩), hS⟩
  ·
    by_cases he10 : (!x4.2) = true
    ·
      refine sq_no hF rfl rfl he10 (by rintro x ⟨⟩; decide) (fun a hF => ?_)
      refine sq_no hF rfl rfl he10 (by rintro x ⟨⟩; decide) (fun a hF => ?_)
      refine sq_val (v_pick_t hF rfl he10 rfl) hF (by decide) (fun a hF => ?_)
      exact sq_nil (then_j ⟨(hF.keep ⟨rfl, rfl, rfl, (boolV (or_t he10)), trivial⟩), hS⟩)
    ·
      have he10 : (!x4.2) = false := nB he10
      refine sq_yes hF rfl rfl he10 ?_
      refine sq_val (v_move hF rfl) hF (by decide) (fun a hF => ?_)
      refine sq_yes hF rfl rfl he10 ?_
      refine sq_val (v_not hF rfl) hF (by decide) (fun a hF => ?_)
      refine sq_val (v_pick_f hF rfl he10 rfl) hF (by decide) (fun a hF => ?_)
      exact sq_nil (then_j ⟨(hF.keep ⟨rfl, rfl, rfl, (boolV (or_f he10)), trivial⟩), hS⟩)

theorem ok_cube_Less (k : Nat) {M : Nat → Prop} {w0 : World} {u0 : TCube} {u1 : TCube} {o : (List TCube)} (hS : St M w0 [] [] [] w0) (h : cube_Less k u0 u1 = some o) :
    Calls Try.prog 14 #[.agg (TCube.enc u0).toArray, .agg (TCube.enc u1).toArray] w0 fun e W' => ∃ v, e = .returned v ∧ (∃ (A76 : Option Addr) (c77 : Nat), v = .slice A76 (o).length c77 ∧ St M w0 [] [⟨k_TCube, 26, A76, c77, o⟩] [] W') := by
  unfold cube_Less at h
  refine calls_start (args := [.agg (TCube.enc u0).toArray, .agg (TCube.enc u1).toArray]) Try.func14 rfl rfl (Nat.le_of_ble_eq_true rfl) (fun a hF => ?_)
  refine wp_seq ?_
  refine wp_reg ?_
  refine sq_box hF hS rfl rfl (by decide) (fun b1 a W hF hS => ?_)
  refine sq_box hF hS rfl rfl (by decide) (fun b2 a W hF hS => ?_)
  refine sq_val (v_assign hF rfl) hF (by decide) (fun a hF => ?_)
  refine sq_nil ?_
  refine then_n ?_
  refine wp_seq ?_
  refine wp_seq ?_
  refine wp_reg ?_
  refine sq_val (v_load (cs := TCube.enc u0) hF rfl pa26 ps26 (hS.bc (i := 1) rfl)) hF (by decide) (fun a hF => ?_)
  refine sq_val (v_load (cs := TCube.enc u1) hF rfl pa26 ps26 (hS.bc (i := 0) rfl)) hF (by decide) (fun a hF => ?_)
  obtain ⟨x3, hx4, h⟩ := bindS h
  refine sq_call hF pc54 rfl (by decide) (ok_cube_both k (hS.enter trivial) hx4) (fun v W hR a hF => ?_)
  obtain ⟨rfl, hT5⟩ := hR
  have hS := hS.grow hT5.below
  refine sq_val (v_not hF rfl) hF (by decide) (fun a hF => ?_)
  refine sq_nil ?_
  refine then_n ?_
  refine wp_if hF rfl (fun he6 => ?_) (fun he6 => ?_)
  ·
    replace h := ifT he6 h
    refine wp_seq ?_
    refine wp_reg ?_
    refine sq_val (v_assign hF rfl) hF (by decide) (fun a hF => ?_)
    refine sq_nil ?_
    refine then_n ?_
    refine wp_ret ?_
    refine then_r ?_
    have hS := hS.addNil k_TCube 26
    obtain rfl := Option.some.inj h
    exact ret1 hF rfl (rv_tmp hF rfl) ⟨_, rfl, none, 0, rfl, (hS.keep (List.nil_sublist _) (List.Sublist.refl _) trivial)⟩
  ·
    replace h := ifF he6 h
    refine wp_skip ?_
    refine then_n ?_
    refine wp_seq ?_
    refine wp_seq ?_
    refine wp_reg ?_
    refine sq_val (v_load (cs := TCube.enc u0) hF rfl pa26 ps26 (hS.bc (i := 1) rfl)) hF (by decide) (fun a hF => ?_)
    refine sq_val (v_load (cs := TCube.enc u1) hF rfl pa26 ps26 (hS.bc (i := 0) rfl)) hF (by decide) (fun a hF => ?_)
    obtain ⟨x7, hx8, h⟩ := bindS h
    refine sq_call hF pc12 rfl (by decide) (ok_cube_Meet k (hS.enter trivial) hx8) (fun v W hR a hF => ?_)
    obtain ⟨rfl, hT9⟩ := hR
    have hS := hS.grow hT9.below
    refine sq_val (v_move hF rfl) hF (by decide) (fun a hF => ?_)
    refine sq_val (v_extract hF rfl rfl) hF (by decide) (fun a hF => ?_)
    refine sq_val (v_extract hF rfl rfl) hF (by decide) (fun a hF => ?_)
    refine sq_alloc hF hS pz26 rfl (by decide) (fun b10 a W hF hS => ?_)
    refine sq_store (o := 0) (vs := TCube.enc x7.1) (cs' := TCube.enc x7.1) hF hS rfl rfl (i := 0) rfl rfl rfl ps26 (TCube.enc_one _) (Nat.le_of_ble_eq_true rfl) rfl (fun W hS => ?_)
    refine sq_val (v_assign hF rfl) hF (by decide) (fun a hF => ?_)
    refine sq_nil ?_
    refine then_n ?_
    refine wp_seq ?_
    refine wp_reg ?_
    refine sq_val (v_move hF rfl) hF (by decide) (fun a hF => ?_)
    refine sq_val (v_not hF rfl) hF (by decide) (fun a hF => ?_)
    refine sq_nil ?_
    refine then_n ?_
    refine wp_if hF rfl (fun he11 => ?_) (fun he11 => ?_)
    ·
      replace h := ifT he11 h
      refine wp_seq ?_
      refine wp_reg ?_
      refine sq_val (v_load (cs := TCube.enc u0) hF rfl pa26 ps26 (hS.bc (i := 2) rfl)) hF (by decide) (fun a hF => ?_)
      refine sq_buildSlice (κ := k_TCube) (xs := [.tmp 24]) (ys := [u0]) hF hS rfl rfl rfl (Els.cons rfl (Els.nil _ _ _)) rfl psl29 pz26 rfl (by decide) (by decide) (by decide) (fun A12 c13 a W hF hS => ?_)
      refine sq_val (v_assign hF rfl) hF (by decide) (fun a hF => ?_)
      refine sq_nil ?_
      refine then_n ?_
      refine wp_ret ?_
      refine then_r ?_
      obtain rfl := Option.some.inj h
      exact ret1 hF rfl (rv_tmp hF rfl) ⟨_, rfl, A12, c13, rfl, (hS.keep (List.nil_sublist _) (List.Sublist.refl _) trivial)⟩
    ·
      replace h := ifF he11 h
      refine wp_skip ?_
      refine then_n ?_
      refine wp_seq ?_
      refine wp_reg ?_
      refine sq_val (v_assign hF rfl) hF (by decide) (fun a hF => ?_)
      refine sq_nil ?_
      refine then_n ?_
      refine wp_seq ?_
      refine wp_seq ?_
      refine wp_reg ?_
      refine sq_val (v_move hF rfl) hF (by decide) (fun a hF => ?_)
      refine sq_nil ?_
      refine then_n ?_
      obtain ⟨o31, h, hk32⟩ := bindS h
      refine wp_join (fun a W => ∃ (x28 : List TCube) (A29 : Option Addr) (c30 : Nat), x28 = o31 ∧ FH 92 [(7, .slice A29 (x28).length c30)] a ∧ St M w0 [] [⟨k_TCube, 26, A29, c30, x28⟩] [] W) (fun a W hJ => ?_) ?_
      ·
        obtain ⟨x28, A29, c30, rfl, hF, hS⟩ := hJ
        have h := hk32
        refine then_n ?_
        refine wp_seq ?_
        refine wp_reg ?_
        refine sq_val (v_move hF rfl) hF (by decide) (fun a hF => ?_)
        refine sq_val (v_assign hF rfl) hF (by decide) (fun a hF => ?_)
        refine sq_nil ?_
        refine then_n ?_
        refine wp_ret ?_
        obtain rfl := Option.some.inj h
        exact ret1 hF rfl (rv_tmp hF rfl) ⟨_, rfl, A29, c30, rfl, hS⟩
      ·
        have hS := hS.addNil k_TCube 26
        refine wp_block ?_
        refine wp_loop_fuel (I := fun m a W => ∃ (x23 : TCube) (x24 : List TCube) (x27 : Int) (A25 : Option Addr) (c26 : Nat), FH 92 [(2, .pointer (some (⟨b1, 0, none⟩))), (3, .pointer (some (⟨b2, 0, none⟩))), (7, .slice A25 (x24).length c26), (26, .int .i64 (x27))] a ∧ St M w0 [⟨b2, TCube.enc u1, 26⟩, ⟨b1, TCube.enc x23, 26⟩] [⟨k_TCube, 26, A25, c26, x24⟩] [] W ∧ (cube_Less.l0 k u1 m x23 x24 x27) = some o31) ?_ (k := k) ⟨u0, ([]), 0, none, 0, (hF.keep ⟨rfl, rfl, rfl, rfl, trivial⟩), (hS.keep (.cons _ (List.Sublist.refl _)) (List.Sublist.refl _) trivial), h⟩
        rintro m33 a W ⟨x23, x24, x27, A25, c26, hF, hS, h⟩
        cases m33 with
        | zero => cases h
        | succ m33 =>
          rw [cube_Less.l0] at h
          refine wp_seq ?_
          refine wp_reg ?_
          refine sq_val (v_lss hF rfl rfl) hF (by decide) (fun a hF => ?_)
          refine sq_nil ?_
          refine then_n ?_
          refine wp_seq ?_
          refine wp_if hF rfl (fun he34 => ?_) (fun he34 => ?_)
          ·
            replace h := ifT he34 h
            refine wp_skip ?_
            refine then_n ?_
            refine wp_seq ?_
            refine wp_block ?_
            refine wp_seq ?_
            refine wp_reg ?_
            refine sq_val (v_move hF rfl) hF (by decide) (fun a hF => ?_)
            refine sq_val (v_assign hF rfl) hF (by decide) (fun a hF => ?_)
            refine sq_nil ?_
            refine then_n ?_
            refine wp_seq ?_
            refine wp_reg ?_
            refine sq_val (v_move hF rfl) hF (by decide) (fun a hF => ?_)
            obtain ⟨x35, hx36, h⟩ := bindS h
            refine sq_call hF pc57 rfl (by decide) (ok_head_Size (hS.enter trivial) hx36) (fun v W hR a hF => ?_)
            obtain ⟨rfl, hT37⟩ := hR
            have hS := hS.grow hT37.below
            refine sq_val (v_sub hF rfl rfl) hF (by decide) (fun a hF => ?_)
            refine sq_val (v_assign hF rfl) hF (by decide) (fun a hF => ?_)
            refine sq_nil ?_
            refine then_n ?_
            obtain ⟨o56, h, hk57⟩ := bindS h
            refine wp_join (fun a W => ∃ (x52 : TCube) (x53 : List TCube) (A54 : Option Addr) (c55 : Nat), (x52, x53) = o56 ∧ FH 92 [(2, .pointer (some (⟨b1, 0, none⟩))), (3, .pointer (some (⟨b2, 0, none⟩))), (7, .slice A54 (x53).length c55), (26, .int .i64 (x27))] a ∧ St M w0 [⟨b2, TCube.enc u1, 26⟩, ⟨b1, TCube.enc x52, 26⟩] [⟨k_TCube, 26, A54, c55, x53⟩] [] W) (fun a W hJ => ?_) ?_
            ·
              obtain ⟨x52, x53, A54, c55, rfl, hF, hS⟩ := hJ
              have h := hk57
              dsimp only at h
              refine blk_n ?_
              refine then_n ?_
              refine wp_reg ?_
              refine sq_val (v_add hF rfl rfl) hF (by decide) (fun a hF => ?_)
              refine sq_val (v_move hF rfl) hF (by decide) (fun a hF => ?_)
              refine sq_nil ?_
              exact then_j ⟨m33, Nat.lt_succ_self _, x52, x53, (IntKind.i64.wrap (x27 + 1)), A54, c55, (hF.keep ⟨rfl, rfl, rfl, rfl, trivial⟩), hS, h⟩
            ·
              refine wp_block ?_
              refine wp_loop_fuel (I := fun m a W => ∃ (x47 : TCube) (x48 : List TCube) (x51 : Int) (A49 : Option Addr) (c50 : Nat), FH 92 [(2, .pointer (some (⟨b1, 0, none⟩))), (3, .pointer (some (⟨b2, 0, none⟩))), (7, .slice A49 (x48).length c50), (8, .int .i64 (x27)), (9, .int .i64 (x51)), (26, .int .i64 (x27))] a ∧ St M w0 [⟨b2, TCube.enc u1, 26⟩, ⟨b1, TCube.enc x47, 26⟩] [⟨k_TCube, 26, A49, c50, x48⟩] [] W ∧ (cube_Less.l1 k u1 x27 m x47 x48 x51) = some o56) ?_ (k := k) ⟨x23, x24, (IntKind.i64.wrap (x35 - 1)), A25, c26, (hF.keep ⟨rfl, rfl, rfl, rfl, rfl, rfl, trivial⟩), hS, h⟩
              rintro m58 a W ⟨x47, x48, x51, A49, c50, hF, hS, h⟩
              cases m58 with
              | zero => cases h
              | succ m58 =>
                rw [cube_Less.l1] at h
                refine wp_seq ?_
                refine wp_seq ?_
                refine wp_reg ?_
                refine sq_val (v_move hF rfl) hF (by decide) (fun a hF => ?_)
                refine sq_val (v_geq hF rfl rfl) hF (by decide) (fun a hF => ?_)
                refine sq_nil ?_
                refine then_n ?_
                refine wp_if hF rfl (fun he59 => ?_) (fun he59 => ?_)
                ·
                  replace h := ifT he59 h
                  refine wp_skip ?_
                  refine then_n ?_
                  refine wp_seq ?_
                  obtain ⟨o64, h, hk65⟩ := bindS h
                  refine wp_join (fun a W => ∃ (x60 : TCube) (x61 : List TCube) (A62 : Option Addr) (c63 : Nat), (x60, x61) = o64 ∧ FH 92 [(2, .pointer (some (⟨b1, 0, none⟩))), (3, .pointer (some (⟨b2, 0, none⟩))), (7, .slice A62 (x61).length c63), (8, .int .i64 (x27)), (9, .int .i64 (x51)), (26, .int .i64 (x27))] a ∧ St M w0 [⟨b2, TCube.enc u1, 26⟩, ⟨b1, TCube.enc x60, 26⟩] [⟨k_TCube, 26, A62, c63, x61⟩] [] W) (fun a W hJ => ?_) ?_
                  ·
                    obtain ⟨x60, x61, A62, c63, rfl, hF, hS⟩ := hJ
                    have h := hk65
                    dsimp only at h
                    refine then_n ?_
                    refine wp_reg ?_
                    refine sq_val (v_move hF rfl) hF (by decide) (fun a hF => ?_)
                    refine sq_val (v_sub hF rfl rfl) hF (by decide) (fun a hF => ?_)
                    refine sq_val (v_assign hF rfl) hF (by decide) (fun a hF => ?_)
                    refine sq_nil ?_
                    exact then_j ⟨m58, Nat.lt_succ_self _, x60, x61, (IntKind.i64.wrap (x51 - 1)), A62, c63, (hF.keep ⟨rfl, rfl, rfl, rfl, rfl, rfl, trivial⟩), hS, h⟩
                  ·
                    refine wp_block ?_
                    refine wp_seq ?_
                    refine wp_reg ?_
                    refine sq_val (v_move hF rfl) hF (by decide) (fun a hF => ?_)
                    obtain ⟨hb66, h⟩ := ifS h
                    refine sq_val (v_shl hF rfl rfl hb66) hF (by decide) (fun a hF => ?_)
                    refine sq_val (v_assign hF rfl) hF (by decide) (fun a hF => ?_)
                    refine sq_nil ?_
                    refine then_n ?_
                    refine wp_seq ?_
                    refine wp_seq ?_
                    refine wp_quiet rfl (by kernel_rfl) hS ?_
                    refine qt_val (fun W hC => (v_move hF rfl)) hF (by decide) (fun a hF => ?_)
                    refine qt_val (fun W hC => (v_fieldAddr hF rfl pf26_1)) hF (by decide) (fun a hF => ?_)
                    obtain ⟨hb67, h⟩ := ifS h
                    refine qt_val (fun W hC => (v_indexAddr hF rfl rfl par24 hb67.1 hb67.2)) hF (by decide) (fun a hF => ?_)
                    refine qt_val (fun W hC => (v_load1 hF rfl pa22 (cells_sub (vs := [.int .u64 ((u1.Care.at x27))]) (hC.2.bc (i := 0) rfl) (add_add _ _ _) (TCube.get_Care u1 x27 hb67.1 hb67.2)))) hF (by decide) (fun a hF => ?_)
                    refine qt_val (fun W hC => (v_move hF rfl)) hF (by decide) (fun a hF => ?_)
                    refine qt_val (fun W hC => (v_fieldAddr hF rfl pf26_1)) hF (by decide) (fun a hF => ?_)
                    refine qt_val (fun W hC => (v_indexAddr hF rfl rfl par24 hb67.1 hb67.2)) hF (by decide) (fun a hF => ?_)
                    refine qt_val (fun W hC => (v_load1 hF rfl pa22 (cells_sub (vs := [.int .u64 ((x47.Care.at x27))]) (hC.2.bc (i := 1) rfl) (add_add _ _ _) (TCube.get_Care x47 x27 hb67.1 hb67.2)))) hF (by decide) (fun a hF => ?_)
                    refine qt_val (fun W hC => (v_andNot hF rfl rfl)) hF (by decide) (fun a hF => ?_)
                    refine qt_val (fun W hC => (v_move hF rfl)) hF (by decide) (fun a hF => ?_)
                    refine qt_val (fun W hC => (v_and hF rfl rfl)) hF (by decide) (fun a hF => ?_)
                    refine qt_val (fun W hC => (v_eql hF rfl rfl)) hF (by decide) (fun a hF => ?_)
                    refine qt_nil ?_
                    intro W hC
                    have hS := hC.2
                    refine then_n ?_
                    refine wp_if hF rfl (fun he68 => ?_) (fun he68 => ?_)
                    ·
                      replace h := ifT he68 h
                      refine wp_exit ?_
                      refine then_x ?_
                      refine blk_hit ?_
                      obtain rfl := Option.some.inj h
                      exact then_j ⟨x47, x48, A49, c50, rfl, (hF.keep ⟨rfl, rfl, rfl, rfl, rfl, rfl, trivial⟩), hS⟩
                    ·
                      replace h := ifF he68 h
                      refine wp_skip ?_
                      refine then_n ?_
                      refine wp_seq ?_
                      refine wp_reg ?_
                      refine sq_val (v_move hF rfl) hF (by decide) (fun a hF => ?_)
                      refine sq_val (v_fieldAddr hF rfl pf26_1) hF (by decide) (fun a hF => ?_)
                      refine sq_val (v_indexAddr hF rfl rfl par24 hb67.1 hb67.2) hF (by decide) (fun a hF => ?_)
                      refine sq_val (v_load1 hF rfl pa22 (cells_sub (vs := [.int .u64 ((x47.Care.at x27))]) (hS.bc (i := 1) rfl) (add_add _ _ _) (TCube.get_Care x47 x27 hb67.1 hb67.2))) hF (by decide) (fun a hF => ?_)
                      refine sq_val (v_move hF rfl) hF (by decide) (fun a hF => ?_)
                      refine sq_val (v_or hF rfl rfl) hF (by decide) (fun a hF => ?_)
                      refine sq_val (v_fieldAddr hF rfl pf26_1) hF (by decide) (fun a hF => ?_)
                      refine sq_val (v_indexAddr hF rfl rfl par24 hb67.1 hb67.2) hF (by decide) (fun a hF => ?_)
                      refine sq_store (o := 12 + x27.toNat * 1) (vs := [.int .u64 ((bOr .u64 (x47.Care.at x27) (bShl .u64 1 x51)))]) (cs' := TCube.enc (TCube.setCare x47 (x47.Care.upd x27 (bOr .u64 (x47.Care.at x27) (bShl .u64 1 x51))))) hF hS rfl (by simp only [add_add, add_plain, Nat.zero_add]) (i := 1) rfl rfl rfl ps22 (one1 rfl) (by have h0 := hb67.1; have h1 := hb67.2; simp only [TCube.enc, List.length_cons, List.length_nil]; omega) (TCube.set_Care x47 x27 _ hb67.1 hb67.2) (fun W hS => ?_)
                      refine sq_nil ?_
                      refine then_n ?_
                      refine wp_seq ?_
                      refine wp_reg ?_
                      refine sq_val (v_load (cs := TCube.enc (TCube.setCare x47 (x47.Care.upd x27 (bOr .u64 (x47.Care.at x27) (bShl .u64 1 x51))))) hF rfl pa26 ps26 (hS.bc (i := 1) rfl)) hF (by decide) (fun a hF => ?_)
                      refine sq_alloc hF hS pz26 rfl (by decide) (fun b69 a W hF hS => ?_)
                      refine sq_store (o := 0) (vs := TCube.enc (TCube.setCare x47 (x47.Care.upd x27 (bOr .u64 (x47.Care.at x27) (bShl .u64 1 x51))))) (cs' := TCube.enc (TCube.setCare x47 (x47.Care.upd x27 (bOr .u64 (x47.Care.at x27) (bShl .u64 1 x51))))) hF hS rfl rfl (i := 0) rfl rfl rfl ps26 (TCube.enc_one _) (Nat.le_of_ble_eq_true rfl) rfl (fun W hS => ?_)
                      refine sq_nil ?_
                      refine then_n ?_
                      refine wp_seq ?_
                      refine wp_drawn (QC M w0 [⟨b69, TCube.enc (TCube.setCare x47 (x47.Care.upd x27 (bOr .u64 (x47.Care.at x27) (bShl .u64 1 x51)))), 26⟩, ⟨b2, TCube.enc u1, 26⟩, ⟨b1, TCube.enc (TCube.setCare x47 (x47.Care.upd x27 (bOr .u64 (x47.Care.at x27) (bShl .u64 1 x51)))), 26⟩] [⟨k_TCube, 26, A49, c50, x48⟩] []) (fun q => Nat.beq q 14) rfl hS (fun W hB0 hR0 => ?_)
                      have hS := hR0
                      have hQC : (QC M w0 [⟨b69, TCube.enc (TCube.setCare x47 (x47.Care.upd x27 (bOr .u64 (x47.Care.at x27) (bShl .u64 1 x51)))), 26⟩, ⟨b2, TCube.enc u1, 26⟩, ⟨b1, TCube.enc (TCube.setCare x47 (x47.Care.upd x27 (bOr .u64 (x47.Care.at x27) (bShl .u64 1 x51)))), 26⟩] [⟨k_TCube, 26, A49, c50, x48⟩] []) W W := ⟨Below.refl _ _, hS⟩
                      refine e_val (listed' := #[true, false, false, false, false, false, false, false, false, false, false, false, false, false, false]) 0 rfl (by kernel_rfl) (by kernel_rfl) (fun _ _ _ h => h) (fun W => (v_move hF rfl)) hF (by decide) (fun a hF => ?_)
                      refine e_val (listed' := #[true, true, false, false, false, false, false, false, false, false, false, false, false, false, false]) 1 rfl (by kernel_rfl) (by kernel_rfl) (fun _ _ _ h => h) (fun W => (v_fieldAddr hF rfl pf26_0)) hF (by decide) (fun a hF => ?_)
                      refine e_val (listed' := #[true, true, true, false, false, false, false, false, false, false, false, false, false, false, false]) 2 rfl (by kernel_rfl) (by kernel_rfl) (fun _ _ _ h => h) (fun W => (v_indexAddr hF rfl rfl par24 hb67.1 hb67.2)) hF (by decide) (fun a hF => ?_)
                      refine e_valS (listed' := #[true, true, true, true, false, false, false, false, false, false, false, false, false, false, false]) 3 rfl (by kernel_rfl) (by kernel_rfl) (fun _ _ _ h => h) (fun W hC => (v_load1 hF rfl pa22 (cells_sub (vs := [.int .u64 ((x47.Value.at x27))]) (hC.2.bc (i := 0) rfl) (add_add _ _ _) (TCube.get_Value (TCube.setCare x47 (x47.Care.upd x27 (bOr .u64 (x47.Care.at x27) (bShl .u64 1 x51)))) x27 hb67.1 hb67.2)))) hQC (by kernel_rfl) hF (by decide) (fun a hF => ?_)
                      refine e_val (listed' := #[true, true, true, true, true, false, false, false, false, false, false, false, false, false, false]) 4 rfl (by kernel_rfl) (by kernel_rfl) (fun _ _ _ h => h) (fun W => (v_move hF rfl)) hF (by decide) (fun a hF => ?_)
                      refine e_val (listed' := #[true, true, true, true, true, true, false, false, false, false, false, false, false, false, false]) 5 rfl (by kernel_rfl) (by kernel_rfl) (fun _ _ _ h => h) (fun W => (v_fieldAddr hF rfl pf26_0)) hF (by decide) (fun a hF => ?_)
                      refine e_val (listed' := #[true, true, true, true, true, true, true, false, false, false, false, false, false, false, false]) 6 rfl (by kernel_rfl) (by kernel_rfl) (fun _ _ _ h => h) (fun W => (v_indexAddr hF rfl rfl par24 hb67.1 hb67.2)) hF (by decide) (fun a hF => ?_)
                      refine e_valS (listed' := #[true, true, true, true, true, true, true, true, false, false, false, false, false, false, false]) 7 rfl (by kernel_rfl) (by kernel_rfl) (fun _ _ _ h => h) (fun W hC => (v_load1 hF rfl pa22 (cells_sub (vs := [.int .u64 ((u1.Value.at x27))]) (hC.2.bc (i := 1) rfl) (add_add _ _ _) (TCube.get_Value u1 x27 hb67.1 hb67.2)))) hQC (by kernel_rfl) hF (by decide) (fun a hF => ?_)
                      refine e_val (listed' := #[true, true, true, true, true, true, true, true, true, false, false, false, false, false, false]) 8 rfl (by kernel_rfl) (by kernel_rfl) (fun _ _ _ h => h) (fun W => (v_inv hF rfl)) hF (by decide) (fun a hF => ?_)
                      refine e_val (listed' := #[true, true, true, true, true, true, true, true, true, true, false, false, false, false, false]) 9 rfl (by kernel_rfl) (by kernel_rfl) (fun _ _ _ h => h) (fun W => (v_move hF rfl)) hF (by decide) (fun a hF => ?_)
                      refine e_val (listed' := #[true, true, true, true, true, true, true, true, true, true, true, false, false, false, false]) 10 rfl (by kernel_rfl) (by kernel_rfl) (fun _ _ _ h => h) (fun W => (v_and hF rfl rfl)) hF (by decide) (fun a hF => ?_)
                      refine e_val (listed' := #[true, true, true, true, true, true, true, true, true, true, true, true, false, false, false]) 11 rfl (by kernel_rfl) (by kernel_rfl) (fun _ _ _ h => h) (fun W => (v_or hF rfl rfl)) hF (by decide) (fun a hF => ?_)
                      refine e_val (listed' := #[true, true, true, true, true, true, true, true, true, true, true, true, true, false, false]) 12 rfl (by kernel_rfl) (by kernel_rfl) (fun _ _ _ h => h) (fun W => (v_fieldAddr hF rfl pf26_0)) hF (by decide) (fun a hF => ?_)
                      refine e_val (listed' := #[true, true, true, true, true, true, true, true, true, true, true, true, true, true, false]) 13 rfl (by kernel_rfl) (by kernel_rfl) (fun _ _ _ h => h) (fun W => (v_indexAddr hF rfl rfl par24 hb67.1 hb67.2)) hF (by decide) (fun a hF => ?_)
                      refine e_one (listed' := #[true, true, true, true, true, true, true, true, true, true, true, true, true, true, true]) 14 rfl (by kernel_rfl) (by kernel_rfl) ?_
                      refine sq_store (o := 0 + x27.toNat * 1) (vs := [.int .u64 ((bOr .u64 (x47.Value.at x27) (bAnd .u64 (bNot .u64 (u1.Value.at x27)) (bShl .u64 1 x51))))]) (cs' := TCube.enc ({ Value := (x47.Value.upd x27 (bOr .u64 (x47.Value.at x27) (bAnd .u64 (bNot .u64 (u1.Value.at x27)) (bShl .u64 1 x51)))), Care := (x47.Care.upd x27 (bOr .u64 (x47.Care.at x27) (bShl .u64 1 x51))) } : TCube)) hF hS rfl (by simp only [add_add, add_plain, Nat.zero_add]) (i := 0) rfl rfl rfl ps22 (one1 rfl) (by have h0 := hb67.1; have h1 := hb67.2; simp only [TCube.enc, List.length_cons, List.length_nil]; omega) (TCube.set_Value (TCube.setCare x47 (x47.Care.upd x27 (bOr .u64 (x47.Care.at x27) (bShl .u64 1 x51)))) x27 _ hb67.1 hb67.2) (fun W hS => ?_)
                      refine sq_nil (then_j ⟨?_, ?_⟩)
                      · exact fun _ hE => absurd hE (by decide)
                      ·
                        refine e_done (by kernel_rfl) ?_ _
                        refine then_n ?_
                        refine wp_seq ?_
                        refine wp_reg ?_
                        refine sq_val (v_move hF rfl) hF (by decide) (fun a hF => ?_)
                        refine sq_val (v_load (cs := TCube.enc ({ Value := (x47.Value.upd x27 (bOr .u64 (x47.Value.at x27) (bAnd .u64 (bNot .u64 (u1.Value.at x27)) (bShl .u64 1 x51)))), Care := (x47.Care.upd x27 (bOr .u64 (x47.Care.at x27) (bShl .u64 1 x51))) } : TCube)) hF rfl pa26 ps26 (hS.bc (i := 0) rfl)) hF (by decide) (fun a hF => ?_)
                        refine sq_buildSlice (κ := k_TCube) (xs := [.tmp 74]) (ys := [({ Value := (x47.Value.upd x27 (bOr .u64 (x47.Value.at x27) (bAnd .u64 (bNot .u64 (u1.Value.at x27)) (bShl .u64 1 x51)))), Care := (x47.Care.upd x27 (bOr .u64 (x47.Care.at x27) (bShl .u64 1 x51))) } : TCube)]) hF hS rfl rfl rfl (Els.cons rfl (Els.nil _ _ _)) rfl psl29 pz26 rfl (by decide) (by decide) (by decide) (fun A70 c71 a W hF hS => ?_)
                        obtain ⟨x72, hx73, h⟩ := bindS h
                        refine sq_append (ys := ([({ Value := (x47.Value.upd x27 (bOr .u64 (x47.Value.at x27) (bAnd .u64 (bNot .u64 (u1.Value.at x27)) (bShl .u64 1 x51)))), Care := (x47.Care.upd x27 (bOr .u64 (x47.Care.at x27) (bShl .u64 1 x51))) } : TCube)])) hF hS (i := 1) rfl rfl rfl (hS.rw_ (i := 0) rfl).src psl29 pb26 pz26 rfl (by decide) (by decide) hx73 (by decide) (fun A74 c75 a W hF hS => ?_)
                        refine sq_val (v_assign hF rfl) hF (by decide) (fun a hF => ?_)
                        refine sq_nil ?_
                        refine then_n ?_
                        refine wp_drawn (QC M w0 [⟨b69, TCube.enc ({ Value := (x47.Value.upd x27 (bOr .u64 (x47.Value.at x27) (bAnd .u64 (bNot .u64 (u1.Value.at x27)) (bShl .u64 1 x51)))), Care := (x47.Care.upd x27 (bOr .u64 (x47.Care.at x27) (bShl .u64 1 x51))) } : TCube), 26⟩, ⟨b2, TCube.enc u1, 26⟩, ⟨b1, TCube.enc (TCube.setCare x47 (x47.Care.upd x27 (bOr .u64 (x47.Care.at x27) (bShl .u64 1 x51)))), 26⟩] [⟨k_TCube, 26, A70, c71, [({ Value := (x47.Value.upd x27 (bOr .u64 (x47.Value.at x27) (bAnd .u64 (bNot .u64 (u1.Value.at x27)) (bShl .u64 1 x51)))), Care := (x47.Care.upd x27 (bOr .u64 (x47.Care.at x27) (bShl .u64 1 x51))) } : TCube)]⟩, ⟨k_TCube, 26, A74, c75, x72⟩] []) (fun q => Nat.beq q 13) rfl hS (fun W hB0 hR0 => ?_)
                        have hS := hR0
                        have hQC : (QC M w0 [⟨b69, TCube.enc ({ Value := (x47.Value.upd x27 (bOr .u64 (x47.Value.at x27) (bAnd .u64 (bNot .u64 (u1.Value.at x27)) (bShl .u64 1 x51)))), Care := (x47.Care.upd x27 (bOr .u64 (x47.Care.at x27) (bShl .u64 1 x51))) } : TCube), 26⟩, ⟨b2, TCube.enc u1, 26⟩, ⟨b1, TCube.enc (TCube.setCare x47 (x47.Care.upd x27 (bOr .u64 (x47.Care.at x27) (bShl .u64 1 x51)))), 26⟩] [⟨k_TCube, 26, A70, c71, [({ Value := (x47.Value.upd x27 (bOr .u64 (x47.Value.at x27) (bAnd .u64 (bNot .u64 (u1.Value.at x27)) (bShl .u64 1 x51)))), Care := (x47.Care.upd x27 (bOr .u64 (x47.Care.at x27) (bShl .u64 1 x51))) } : TCube)]⟩, ⟨k_TCube, 26, A74, c75, x72⟩] []) W W := ⟨Below.refl _ _, hS⟩
                        refine e_val (listed' := #[true, false, false, false, false, false, false, false, false, false, false, false, false, false]) 0 rfl (by kernel_rfl) (by kernel_rfl) (fun _ _ _ h => h) (fun W => (v_move hF rfl)) hF (by decide) (fun a hF => ?_)
                        refine e_val (listed' := #[true, true, false, false, false, false, false, false, false, false, false, false, false, false]) 1 rfl (by kernel_rfl) (by kernel_rfl) (fun _ _ _ h => h) (fun W => (v_fieldAddr hF rfl pf26_0)) hF (by decide) (fun a hF => ?_)
                        refine e_val (listed' := #[true, true, true, false, false, false, false, false, false, false, false, false, false, false]) 2 rfl (by kernel_rfl) (by kernel_rfl) (fun _ _ _ h => h) (fun W => (v_indexAddr hF rfl rfl par24 hb67.1 hb67.2)) hF (by decide) (fun a hF => ?_)
                        refine e_valS (listed' := #[true, true, true, true, false, false, false, false, false, false, false, false, false, false]) 3 rfl (by kernel_rfl) (by kernel_rfl) (fun _ _ _ h => h) (fun W hC => (v_load1 hF rfl pa22 (cells_sub (vs := [.int .u64 ((x47.Value.at x27))]) (hC.2.bc (i := 2) rfl) (add_add _ _ _) (TCube.get_Value (TCube.setCare x47 (x47.Care.upd x27 (bOr .u64 (x47.Care.at x27) (bShl .u64 1 x51)))) x27 hb67.1 hb67.2)))) hQC (by kernel_rfl) hF (by decide) (fun a hF => ?_)
                        refine e_val (listed' := #[true, true, true, true, true, false, false, false, false, false, false, false, false, false]) 4 rfl (by kernel_rfl) (by kernel_rfl) (fun _ _ _ h => h) (fun W => (v_move hF rfl)) hF (by decide) (fun a hF => ?_)
                        refine e_val (listed' := #[true, true, true, true, true, true, false, false, false, false, false, false, false, false]) 5 rfl (by kernel_rfl) (by kernel_rfl) (fun _ _ _ h => h) (fun W => (v_fieldAddr hF rfl pf26_0)) hF (by decide) (fun a hF => ?_)
                        refine e_val (listed' := #[true, true, true, true, true, true, true, false, false, false, false, false, false, false]) 6 rfl (by kernel_rfl) (by kernel_rfl) (fun _ _ _ h => h) (fun W => (v_indexAddr hF rfl rfl par24 hb67.1 hb67.2)) hF (by decide) (fun a hF => ?_)
                        refine e_valS (listed' := #[true, true, true, true, true, true, true, true, false, false, false, false, false, false]) 7 rfl (by kernel_rfl) (by kernel_rfl) (fun _ _ _ h => h) (fun W hC => (v_load1 hF rfl pa22 (cells_sub (vs := [.int .u64 ((u1.Value.at x27))]) (hC.2.bc (i := 1) rfl) (add_add _ _ _) (TCube.get_Value u1 x27 hb67.1 hb67.2)))) hQC (by kernel_rfl) hF (by decide) (fun a hF => ?_)
                        refine e_val (listed' := #[true, true, true, true, true, true, true, true, true, false, false, false, false, false]) 8 rfl (by kernel_rfl) (by kernel_rfl) (fun _ _ _ h => h) (fun W => (v_move hF rfl)) hF (by decide) (fun a hF => ?_)
                        refine e_val (listed' := #[true, true, true, true, true, true, true, true, true, true, false, false, false, false]) 9 rfl (by kernel_rfl) (by kernel_rfl) (fun _ _ _ h => h) (fun W => (v_and hF rfl rfl)) hF (by decide) (fun a hF => ?_)
                        refine e_val (listed' := #[true, true, true, true, true, true, true, true, true, true, true, false, false, false]) 10 rfl (by kernel_rfl) (by kernel_rfl) (fun _ _ _ h => h) (fun W => (v_or hF rfl rfl)) hF (by decide) (fun a hF => ?_)
                        refine e_val (listed' := #[true, true, true, true, true, true, true, true, true, true, true, true, false, false]) 11 rfl (by kernel_rfl) (by kernel_rfl) (fun _ _ _ h => h) (fun W => (v_fieldAddr hF rfl pf26_0)) hF (by decide) (fun a hF => ?_)
                        refine e_val (listed' := #[true, true, true, true, true, true, true, true, true, true, true, true, true, false]) 12 rfl (by kernel_rfl) (by kernel_rfl) (fun _ _ _ h => h) (fun W => (v_indexAddr hF rfl rfl par24 hb67.1 hb67.2)) hF (by decide) (fun a hF => ?_)
                        refine e_one (listed' := #[true, true, true, true, true, true, true, true, true, true, true, true, true, true]) 13 rfl (by kernel_rfl) (by kernel_rfl) ?_
                        refine sq_store (o := 0 + x27.toNat * 1) (vs := [.int .u64 ((bOr .u64 (x47.Value.at x27) (bAnd .u64 (u1.Value.at x27) (bShl .u64 1 x51))))]) (cs' := TCube.enc ({ Value := (x47.Value.upd x27 (bOr .u64 (x47.Value.at x27) (bAnd .u64 (u1.Value.at x27) (bShl .u64 1 x51)))), Care := (x47.Care.upd x27 (bOr .u64 (x47.Care.at x27) (bShl .u64 1 x51))) } : TCube)) hF hS rfl (by simp only [add_add, add_plain, Nat.zero_add]) (i := 2) rfl rfl rfl ps22 (one1 rfl) (by have h0 := hb67.1; have h1 := hb67.2; simp only [TCube.enc, List.length_cons, List.length_nil]; omega) (TCube.set_Value (TCube.setCare x47 (x47.Care.upd x27 (bOr .u64 (x47.Care.at x27) (bShl .u64 1 x51)))) x27 _ hb67.1 hb67.2) (fun W hS => ?_)
                        refine sq_nil (then_j ⟨?_, ?_⟩)
                        · exact fun _ hE => absurd hE (by decide)
                        ·
                          refine e_done (by kernel_rfl) ?_ _
                          refine blk_n ?_
                          obtain rfl := Option.some.inj h
                          exact then_j ⟨({ Value := (x47.Value.upd x27 (bOr .u64 (x47.Value.at x27) (bAnd .u64 (u1.Value.at x27) (bShl .u64 1 x51)))), Care := (x47.Care.upd x27 (bOr .u64 (x47.Care.at x27) (bShl .u64 1 x51))) } : TCube), x72, A74, c75, rfl, (hF.keep ⟨rfl, rfl, rfl, rfl, rfl, rfl, trivial⟩), (hS.keep (.cons _ (List.Sublist.refl _)) (.cons _ (List.Sublist.refl _)) trivial)⟩
                ·
                  replace h := ifF he59 h
                  refine wp_exit ?_
                  refine then_x ?_
                  refine then_x ?_
                  refine blk_hit ?_
                  obtain rfl := Option.some.inj h
                  exact then_j ⟨x47, x48, A49, c50, rfl, (hF.keep ⟨rfl, rfl, rfl, rfl, trivial⟩), hS⟩
          ·
            replace h := ifF he34 h
            refine wp_exit ?_
            refine then_x ?_
            refine then_x ?_
            refine blk_hit ?_
            obtain rfl := Option.some.inj h
            exact then_j ⟨x24, A25, c26, rfl, (hF.keep ⟨rfl, trivial⟩), (hS.keep (List.nil_sublist _) (List.Sublist.refl _) trivial)⟩

theorem ok_cube_Has (k : Nat) {M : Nat → Prop} {w0 : World} {u0 : TCube} {u1 : Arr 12} {o : Bool} (hS : St M w0 [] [] [] w0) (h : cube_Has k u0 u1 = some o) :
    Calls Try.prog 15 #[.agg (TCube.enc u0).toArray, .agg (A12u64.enc u1).toArray] w0 fun e W' => ∃ v, e = .returned v ∧ (v = .bool (o) ∧ St M w0 [] [] [] W') := by
  unfold cube_Has at h
  refine calls_start (args := [.agg (TCube.enc u0).toArray, .agg (A12u64.enc u1).toArray]) Try.func15 rfl rfl (Nat.le_of_ble_eq_true rfl) (fun a hF => ?_)
  refine wp_seq ?_
  refine wp_reg ?_
  refine sq_box hF hS rfl rfl (by decide) (fun b1 a W hF hS => ?_)
  refine sq_box hF hS rfl rfl (by decide) (fun b2 a W hF hS => ?_)
  refine sq_val (v_assign hF rfl) hF (by decide) (fun a hF => ?_)
  refine sq_nil ?_
  refine then_n ?_
  refine wp_seq ?_
  refine wp_seq ?_
  refine wp_reg ?_
  refine sq_val (v_load (cs := A12u64.enc u1) hF rfl pa24 ps24 (hS.bc (i := 0) rfl)) hF (by decide) (fun a hF => ?_)
  refine sq_val (v_move hF rfl) hF (by decide) (fun a hF => ?_)
  refine sq_nil ?_
  refine then_n ?_
  obtain ⟨o5, h, hk6⟩ := bindS h
  refine wp_join (fun a W => Lo.brk () = o5 ∧ FH 30 [(2, .pointer (some (⟨b1, 0, none⟩))), (3, .pointer (some (⟨b2, 0, none⟩)))] a ∧ St M w0 [⟨b2, A12u64.enc u1, 24⟩, ⟨b1, TCube.enc u0, 26⟩] [] [] W) (fun a W hJ => ?_) ?_
  ·
    obtain ⟨rfl, hF, hS⟩ := hJ
    have h := hk6
    dsimp only at h
    refine then_n ?_
    refine wp_seq ?_
    refine wp_reg ?_
    refine sq_val (v_load (cs := TCube.enc u0) hF rfl pa26 ps26 (hS.bc (i := 1) rfl)) hF (by decide) (fun a hF => ?_)
    obtain ⟨x7, hx8, h⟩ := bindS h
    refine sq_call hF pc58 rfl (by decide) (ok_cube_Sound k (hS.enter trivial) hx8) (fun v W hR a hF => ?_)
    obtain ⟨rfl, hT9⟩ := hR
    have hS := hS.grow hT9.below
    refine sq_val (v_move hF rfl) hF (by decide) (fun a hF => ?_)
    obtain ⟨x11, h, hk13⟩ := bindS h
    refine sq_cut 3 (fun a W => FH 30 [(29, .bool x11)] a ∧ St M w0 [⟨b2, A12u64.enc u1, 24⟩, ⟨b1, TCube.enc u0, 26⟩] [] [] W) (fun a W hJ => ?_) ?_
    ·
      have h := hk13
      obtain ⟨hF, hS⟩ := hJ
      refine sq_val (v_assign hF rfl) hF (by decide) (fun a hF => ?_)
      refine sq_nil ?_
      refine then_n ?_
      refine wp_ret ?_
      obtain rfl := Option.some.inj h
      exact ret1 hF rfl (rv_tmp hF rfl) ⟨_, rfl, rfl, (hS.keep (List.nil_sublist _) (List.Sublist.refl _) trivial)⟩
    ·
      by_cases he10 : x7 = true
      ·
        replace h := ifT he10 h
        refine sq_yes hF rfl rfl he10 ?_
        refine sq_val (v_load (cs := A12u64.enc u1) hF rfl pa24 ps24 (hS.bc (i := 0) rfl)) hF (by decide) (fun a hF => ?_)
        refine sq_yes hF rfl rfl he10 ?_
        obtain ⟨x14, hx15, h⟩ := bindS h
        refine sq_call hF pc59 rfl (by decide) (ok_head_Sound k (hS.enter trivial) hx15) (fun v W hR a hF => ?_)
        obtain ⟨rfl, hT16⟩ := hR
        have hS := hS.grow hT16.below
        refine sq_val (v_pick_t hF rfl he10 rfl) hF (by decide) (fun a hF => ?_)
        obtain rfl := Option.some.inj h
        exact sq_nil (then_j ⟨(hF.keep ⟨rfl, trivial⟩), hS⟩)
      ·
        have he10 : x7 = false := nB he10
        replace h := ifF he10 h
        refine sq_no hF rfl rfl he10 (by rintro x ⟨⟩; decide) (fun a hF => ?_)
        refine sq_no hF rfl rfl he10 (by rintro x ⟨⟩; decide) (fun a hF => ?_)
        refine sq_val (v_pick_f hF rfl he10 rfl) hF (by decide) (fun a hF => ?_)
        obtain rfl := Option.some.inj h
        exact sq_nil (then_j ⟨(hF.keep ⟨rfl, trivial⟩), hS⟩)
  ·
    refine wp_block ?_
    refine wp_loop_fuel (I := fun m a W => ∃ (x4 : Int), FH 30 [(2, .pointer (some (⟨b1, 0, none⟩))), (3, .pointer (some (⟨b2, 0, none⟩))), (7, .agg (A12u64.enc u1).toArray), (8, .int .i64 (x4))] a ∧ St M w0 [⟨b2, A12u64.enc u1, 24⟩, ⟨b1, TCube.enc u0, 26⟩] [] [] W ∧ (cube_Has.l0 k u0 u1 m x4) = some o5) ?_ (k := k) ⟨0, (hF.keep ⟨rfl, rfl, rfl, rfl, trivial⟩), hS, h⟩
    rintro m17 a W ⟨x4, hF, hS, h⟩
    cases m17 with
    | zero => cases h
    | succ m17 =>
      rw [cube_Has.l0] at h
      refine wp_seq ?_
      refine wp_reg ?_
      refine sq_val (v_lss hF rfl rfl) hF (by decide) (fun a hF => ?_)
      refine sq_nil ?_
      refine then_n ?_
      refine wp_seq ?_
      refine wp_if hF rfl (fun he18 => ?_) (fun he18 => ?_)
      ·
        replace h := ifT he18 h
        refine wp_skip ?_
        refine then_n ?_
        refine wp_seq ?_
        refine wp_block ?_
        refine wp_seq ?_
        refine wp_reg ?_
        refine sq_val (v_move hF rfl) hF (by decide) (fun a hF => ?_)
        obtain ⟨hb19, h⟩ := ifS h
        refine sq_val (v_index1 hF rfl rfl par24 pa22 hb19.1 hb19.2 (cell1 (A12u64.get u1 x4 hb19.1 hb19.2))) hF (by decide) (fun a hF => ?_)
        refine sq_val (v_assign hF rfl) hF (by decide) (fun a hF => ?_)
        refine sq_val (v_assign hF rfl) hF (by decide) (fun a hF => ?_)
        refine sq_nil ?_
        refine then_n ?_
        refine wp_seq ?_
        refine wp_quiet rfl (by kernel_rfl) hS ?_
        refine qt_val (fun W hC => (v_move hF rfl)) hF (by decide) (fun a hF => ?_)
        refine qt_val (fun W hC => (v_move hF rfl)) hF (by decide) (fun a hF => ?_)
        refine qt_val (fun W hC => (v_fieldAddr hF rfl pf26_1)) hF (by decide) (fun a hF => ?_)
        refine qt_val (fun W hC => (v_indexAddr hF rfl rfl par24 hb19.1 hb19.2)) hF (by decide) (fun a hF => ?_)
        refine qt_val (fun W hC => (v_load1 hF rfl pa22 (cells_sub (vs := [.int .u64 ((u0.Care.at x4))]) (hC.2.bc (i := 1) rfl) (add_add _ _ _) (TCube.get_Care u0 x4 hb19.1 hb19.2)))) hF (by decide) (fun a hF => ?_)
        refine qt_val (fun W hC => (v_and hF rfl rfl)) hF (by decide) (fun a hF => ?_)
        refine qt_val (fun W hC => (v_move hF rfl)) hF (by decide) (fun a hF => ?_)
        refine qt_val (fun W hC => (v_fieldAddr hF rfl pf26_0)) hF (by decide) (fun a hF => ?_)
        refine qt_val (fun W hC => (v_indexAddr hF rfl rfl par24 hb19.1 hb19.2)) hF (by decide) (fun a hF => ?_)
        refine qt_val (fun W hC => (v_load1 hF rfl pa22 (cells_sub (vs := [.int .u64 ((u0.Value.at x4))]) (hC.2.bc (i := 1) rfl) (add_add _ _ _) (TCube.get_Value u0 x4 hb19.1 hb19.2)))) hF (by decide) (fun a hF => ?_)
        refine qt_val (fun W hC => (v_neq hF rfl rfl)) hF (by decide) (fun a hF => ?_)
        refine qt_nil ?_
        intro W hC
        have hS := hC.2
        refine then_n ?_
        refine wp_if hF rfl (fun he20 => ?_) (fun he20 => ?_)
        ·
          replace h := ifT he20 h
          refine wp_seq ?_
          refine wp_reg ?_
          refine sq_val (v_assign hF rfl) hF (by decide) (fun a hF => ?_)
          refine sq_nil ?_
          refine then_n ?_
          refine wp_ret ?_
          refine blk_r ?_
          refine then_r ?_
          refine then_r ?_
          refine blk_r ?_
          refine then_r ?_
          refine then_r ?_
          obtain rfl := Option.some.inj h
          have h := hk6
          dsimp only at h
          obtain rfl := Option.some.inj h
          exact ret1 hF rfl (rv_tmp hF rfl) ⟨_, rfl, rfl, (hS.keep (List.nil_sublist _) (List.Sublist.refl _) trivial)⟩
        ·
          replace h := ifF he20 h
          refine wp_skip ?_
          refine blk_n ?_
          refine then_n ?_
          refine wp_reg ?_
          refine sq_val (v_add hF rfl rfl) hF (by decide) (fun a hF => ?_)
          refine sq_val (v_move hF rfl) hF (by decide) (fun a hF => ?_)
          refine sq_nil ?_
          exact then_j ⟨m17, Nat.lt_succ_self _, (IntKind.i64.wrap (x4 + 1)), (hF.keep ⟨rfl, rfl, rfl, rfl, trivial⟩), hS, h⟩
      ·
        replace h := ifF he18 h
        refine wp_exit ?_
        refine then_x ?_
        refine then_x ?_
        refine blk_hit ?_
        obtain rfl := Option.some.inj h
        exact then_j ⟨rfl, (hF.keep ⟨rfl, rfl, trivial⟩), hS⟩
end Go.Proofs.Ytangebngeeamoaa
