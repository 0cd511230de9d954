/- What calls of the Go functions come to. -/
import Derived.Test.YtangebngeeamoaaW3
set_option linter.unusedVariables false
set_option linter.unusedSimpArgs false
set_option maxRecDepth 100000
set_option maxHeartbeats 4000000
namespace Go.Proofs.Ytangebngeeamoaa
open Go.RowKit Go.Pod
theorem ok_ref04_Acts (k : Nat) {M : Nat → Prop} {w0 : World} {u0 : List TAct} {A0_0 : Option Addr} {c0_0 : Nat} {o : Bool} (hS : St M w0 [] [] [fSl k_TAct A0_0 c0_0 u0] w0) (h : ref04_Acts k u0 = some o) :
    Calls Try.prog 79 #[.slice A0_0 ((u0).length) c0_0] w0 fun e W' => ∃ v, e = .returned v ∧ (v = .bool (o) ∧ St M w0 [] [] [] W') := by
  unfold ref04_Acts at h
  refine calls_start (args := [.slice A0_0 ((u0).length) c0_0]) Try.func79 rfl rfl (Nat.le_of_ble_eq_true rfl) (fun a hF => ?_)
  refine wp_seq ?_
  refine wp_reg ?_
  refine sq_val (v_assign hF rfl) hF (by decide) (fun a hF => ?_)
  refine sq_nil ?_
  refine then_n ?_
  refine wp_seq ?_
  refine wp_seq ?_
  refine wp_reg ?_
  refine sq_val (v_assign hF rfl) hF (by decide) (fun a hF => ?_)
  refine sq_nil ?_
  refine then_n ?_
  obtain ⟨o3, h, hk4⟩ := bindS h
  refine wp_join (fun a W => Lo.brk () = o3 ∧ FH 81 [(0, .slice A0_0 ((u0).length) c0_0)] a ∧ St M w0 [] [] [fSl k_TAct A0_0 c0_0 u0] W) (fun a W hJ => ?_) ?_
  ·
    obtain ⟨rfl, hF, hS⟩ := hJ
    have h := hk4
    dsimp only at h
    refine then_n ?_
    refine wp_seq ?_
    refine wp_reg ?_
    refine sq_val (v_move hF rfl) hF (by decide) (fun a hF => ?_)
    refine sq_val (v_len hF rfl pu38) hF (by decide) (fun a hF => ?_)
    refine sq_val (v_leq hF rfl rfl) hF (by decide) (fun a hF => ?_)
    refine sq_val (v_assign hF rfl) hF (by decide) (fun a hF => ?_)
    refine sq_nil ?_
    refine then_n ?_
    refine wp_ret ?_
    obtain rfl := Option.some.inj h
    exact ret1 hF rfl (rv_tmp hF rfl) ⟨_, rfl, rfl, (hS.keep (List.Sublist.refl _) (List.Sublist.refl _) trivial)⟩
  ·
    refine wp_block ?_
    refine wp_loop_fuel (I := fun m a W => ∃ (x2 : Int), FH 81 [(0, .slice A0_0 ((u0).length) c0_0), (3, .int .i64 (x2))] a ∧ St M w0 [] [] [fSl k_TAct A0_0 c0_0 u0] W ∧ (ref04_Acts.l0 k u0 m x2) = some o3) ?_ (k := k) ⟨0, (hF.keep ⟨rfl, rfl, trivial⟩), hS, h⟩
    rintro m5 a W ⟨x2, hF, hS, h⟩
    cases m5 with
    | zero => cases h
    | succ m5 =>
      rw [ref04_Acts.l0] at h
      refine wp_seq ?_
      refine wp_seq ?_
      refine wp_reg ?_
      refine sq_val (v_move hF rfl) hF (by decide) (fun a hF => ?_)
      refine sq_val (v_move hF rfl) hF (by decide) (fun a hF => ?_)
      refine sq_val (v_len hF rfl pu38) hF (by decide) (fun a hF => ?_)
      refine sq_val (v_lss hF rfl rfl) hF (by decide) (fun a hF => ?_)
      refine sq_nil ?_
      refine then_n ?_
      refine wp_if hF rfl (fun he6 => ?_) (fun he6 => ?_)
      ·
        replace h := ifT he6 h
        refine wp_skip ?_
        refine then_n ?_
        refine wp_seq ?_
        refine wp_block ?_
        refine wp_seq ?_
        refine wp_reg ?_
        refine sq_val (v_move hF rfl) hF (by decide) (fun a hF => ?_)
        refine sq_val (v_move hF rfl) hF (by decide) (fun a hF => ?_)
        obtain ⟨x7, hx8, h⟩ := bindS h
        obtain ⟨p9, cs10, hA11, hat12⟩ := SlR.at (hS.fc (i := 0) rfl) hx8
        obtain rfl : cs10 = TAct.enc x7 := hat12.2.2.2
        have hS := hS.addFact (f := fAt k_TAct (p9.add (x2.toNat * 4)) (TAct.enc x7) x7) hat12
        refine sq_val (v_idx hF rfl hA11 rfl psl38 hx8) hF (by decide) (fun a hF => ?_)
        refine sq_val (v_load (cs := TAct.enc x7) hF rfl pa94 ps94 (hS.pc (i := 0) rfl)) hF (by decide) (fun a hF => ?_)
        refine sq_alloc hF hS pz94 rfl (by decide) (fun b13 a W hF hS => ?_)
        refine sq_store (o := 0) (vs := TAct.enc x7) (cs' := TAct.enc x7) hF hS rfl rfl (i := 0) rfl rfl rfl ps94 (TAct.enc_one _) (Nat.le_of_ble_eq_true rfl) rfl (fun W hS => ?_)
        refine sq_nil ?_
        refine then_n ?_
        refine wp_seq ?_
        refine wp_reg ?_
        refine sq_val (v_assign hF rfl) hF (by decide) (fun a hF => ?_)
        refine sq_nil ?_
        refine then_n ?_
        refine wp_seq ?_
        refine wp_seq ?_
        refine wp_reg ?_
        refine sq_val (v_fieldAddr hF rfl pf94_0) hF (by decide) (fun a hF => ?_)
        refine sq_val (v_load1 hF rfl pa3 (cells_sub (vs := [.int .i64 (x7.Kind)]) (hS.bc (i := 0) rfl) rfl rfl)) hF (by decide) (fun a hF => ?_)
        refine sq_nil ?_
        refine then_n ?_
        obtain ⟨o15, h, hk16⟩ := bindS h
        refine wp_join (fun a W => ∃ (x14 : Bool), x14 = o15 ∧ FH 81 [(0, .slice A0_0 ((u0).length) c0_0), (3, .int .i64 (x2)), (5, .bool (x14))] a ∧ St M w0 [] [] [fSl k_TAct A0_0 c0_0 u0] W) (fun a W hJ => ?_) ?_
        ·
          obtain ⟨x14, rfl, hF, hS⟩ := hJ
          have h := hk16
          refine then_n ?_
          refine wp_seq ?_
          refine wp_reg ?_
          refine sq_val (v_move hF rfl) hF (by decide) (fun a hF => ?_)
          refine sq_val (v_not hF rfl) hF (by decide) (fun a hF => ?_)
          refine sq_nil ?_
          refine then_n ?_
          refine wp_if hF rfl (fun he17 => ?_) (fun he17 => ?_)
          ·
            replace h := ifT he17 h
            refine wp_seq ?_
            refine wp_reg ?_
            refine sq_val (v_assign hF rfl) hF (by decide) (fun a hF => ?_)
            refine sq_nil ?_
            refine then_n ?_
            refine wp_ret ?_
            refine blk_r ?_
            refine then_r ?_
            refine then_r ?_
            refine blk_r ?_
            refine then_r ?_
            refine then_r ?_
            obtain rfl := Option.some.inj h
            have h := hk4
            dsimp only at h
            obtain rfl := Option.some.inj h
            exact ret1 hF rfl (rv_tmp hF rfl) ⟨_, rfl, rfl, (hS.keep (List.Sublist.refl _) (List.Sublist.refl _) trivial)⟩
          ·
            replace h := ifF he17 h
            refine wp_skip ?_
            refine blk_n ?_
            refine then_n ?_
            refine wp_reg ?_
            refine sq_val (v_move hF rfl) hF (by decide) (fun a hF => ?_)
            refine sq_val (v_add hF rfl rfl) hF (by decide) (fun a hF => ?_)
            refine sq_val (v_assign hF rfl) hF (by decide) (fun a hF => ?_)
            refine sq_nil ?_
            exact then_j ⟨m5, Nat.lt_succ_self _, (IntKind.i64.wrap (x2 + 1)), (hF.keep ⟨rfl, rfl, trivial⟩), hS, h⟩
        ·
          refine wp_block ?_
          refine wp_seq ?_
          refine wp_reg ?_
          refine sq_val (v_eql hF rfl rfl) hF (by decide) (fun a hF => ?_)
          refine sq_val (v_assign hF rfl) hF (by decide) (fun a hF => ?_)
          refine sq_nil ?_
          refine then_n ?_
          obtain ⟨o19, h, hk20⟩ := bindS h
          refine wp_join (fun a W => ∃ (x18 : Bool), x18 = o19 ∧ FH 81 [(0, .slice A0_0 ((u0).length) c0_0), (3, .int .i64 (x2)), (5, .bool (x18))] a ∧ St M w0 [] [] [fSl k_TAct A0_0 c0_0 u0] W) (fun a W hJ => ?_) ?_
          ·
            obtain ⟨x18, rfl, hF, hS⟩ := hJ
            have h := hk20
            refine blk_n ?_
            obtain rfl := Option.some.inj h
            exact then_j ⟨x18, rfl, (hF.keep ⟨rfl, rfl, rfl, trivial⟩), hS⟩
          ·
            refine wp_if hF rfl (fun he21 => ?_) (fun he21 => ?_)
            ·
              replace h := ifT he21 h
              refine wp_reg ?_
              refine sq_val (v_fieldAddr hF rfl pf94_1) hF (by decide) (fun a hF => ?_)
              refine sq_val (v_load1 hF rfl pa3 (cells_sub (vs := [.int .i64 (x7.Port)]) (hS.bc (i := 0) rfl) rfl rfl)) hF (by decide) (fun a hF => ?_)
              refine sq_val (v_geq hF rfl rfl) hF (by decide) (fun a hF => ?_)
              refine sq_val (v_move hF rfl) hF (by decide) (fun a hF => ?_)
              refine sq_cut 4 (fun a W => FH 81 [(0, .slice A0_0 ((u0).length) c0_0), (3, .int .i64 (x2)), (4, .pointer (some (⟨b13, 0, none⟩))), (27, .bool ((decide (1 ≤ x7.Port)) && (decide (x7.Port ≤ 16))))] a ∧ St M w0 [⟨b13, TAct.enc x7, 94⟩] [] [fAt k_TAct (p9.add (x2.toNat * 4)) (TAct.enc x7) x7, fSl k_TAct A0_0 c0_0 u0] W) (fun a W hJ => ?_) ?_
              ·
                obtain ⟨hF, hS⟩ := hJ
                refine sq_val (v_move hF rfl) hF (by decide) (fun a hF => ?_)
                refine sq_cut 4 (fun a W => FH 81 [(0, .slice A0_0 ((u0).length) c0_0), (3, .int .i64 (x2)), (4, .pointer (some (⟨b13, 0, none⟩))), (32, .bool (((decide (1 ≤ x7.Port)) && (decide (x7.Port ≤ 16))) && (x7.Field == 0)))] a ∧ St M w0 [⟨b13, TAct.enc x7, 94⟩] [] [fAt k_TAct (p9.add (x2.toNat * 4)) (TAct.enc x7) x7, fSl k_TAct A0_0 c0_0 u0] W) (fun a W hJ => ?_) ?_
                ·
                  obtain ⟨hF, hS⟩ := hJ
                  refine sq_val (v_move hF rfl) hF (by decide) (fun a hF => ?_)
                  refine sq_cut 4 (fun a W => FH 81 [(0, .slice A0_0 ((u0).length) c0_0), (3, .int .i64 (x2)), (37, .bool ((((decide (1 ≤ x7.Port)) && (decide (x7.Port ≤ 16))) && (x7.Field == 0)) && (x7.Value == 0)))] a ∧ St M w0 [⟨b13, TAct.enc x7, 94⟩] [] [fAt k_TAct (p9.add (x2.toNat * 4)) (TAct.enc x7) x7, fSl k_TAct A0_0 c0_0 u0] W) (fun a W hJ => ?_) ?_
                  ·
                    obtain ⟨hF, hS⟩ := hJ
                    refine sq_val (v_assign hF rfl) hF (by decide) (fun a hF => ?_)
                    refine sq_nil ?_
                    obtain rfl := Option.some.inj h
                    exact then_j ⟨((((decide (1 ≤ x7.Port)) && (decide (x7.Port ≤ 16))) && (x7.Field == 0)) && (x7.Value == 0)), rfl, (hF.keep ⟨rfl, rfl, rfl, trivial⟩), (hS.keep (List.nil_sublist _) (List.Sublist.refl _) ⟨⟨1, rfl⟩, trivial⟩)⟩
                  ·
                    by_cases he24 : (((decide (1 ≤ x7.Port)) && (decide (x7.Port ≤ 16))) && (x7.Field == 0)) = true
                    ·
                      refine sq_yes hF rfl rfl he24 ?_
                      refine sq_val (v_fieldAddr hF rfl pf94_3) hF (by decide) (fun a hF => ?_)
                      refine sq_yes hF rfl rfl he24 ?_
                      refine sq_val (v_load1 hF rfl pa22 (cells_sub (vs := [.int .u64 (x7.Value)]) (hS.bc (i := 0) rfl) rfl rfl)) hF (by decide) (fun a hF => ?_)
                      refine sq_yes hF rfl rfl he24 ?_
                      refine sq_val (v_eql hF rfl rfl) hF (by decide) (fun a hF => ?_)
                      refine sq_val (v_pick_t hF rfl he24 rfl) hF (by decide) (fun a hF => ?_)
                      exact sq_nil (then_j ⟨(hF.keep ⟨rfl, rfl, (boolV (and_t he24)), trivial⟩), hS⟩)
                    ·
                      have he24 : (((decide (1 ≤ x7.Port)) && (decide (x7.Port ≤ 16))) && (x7.Field == 0)) = false := nB he24
                      refine sq_no hF rfl rfl he24 (by rintro x ⟨⟩; decide) (fun a hF => ?_)
                      refine sq_no hF rfl rfl he24 (by rintro x ⟨⟩; decide) (fun a hF => ?_)
                      refine sq_no hF rfl rfl he24 (by rintro x ⟨⟩; decide) (fun a hF => ?_)
                      refine sq_val (v_pick_f hF rfl he24 rfl) hF (by decide) (fun a hF => ?_)
                      exact sq_nil (then_j ⟨(hF.keep ⟨rfl, rfl, (boolV (and_f he24)), trivial⟩), hS⟩)
                ·
                  by_cases he23 : ((decide (1 ≤ x7.Port)) && (decide (x7.Port ≤ 16))) = true
                  ·
                    refine sq_yes hF rfl rfl he23 ?_
                    refine sq_val (v_fieldAddr hF rfl pf94_2) hF (by decide) (fun a hF => ?_)
                    refine sq_yes hF rfl rfl he23 ?_
                    refine sq_val (v_load1 hF rfl pa3 (cells_sub (vs := [.int .i64 (x7.Field)]) (hS.bc (i := 0) rfl) rfl rfl)) hF (by decide) (fun a hF => ?_)
                    refine sq_yes hF rfl rfl he23 ?_
                    refine sq_val (v_eql hF rfl rfl) hF (by decide) (fun a hF => ?_)
                    refine sq_val (v_pick_t hF rfl he23 rfl) hF (by decide) (fun a hF => ?_)
                    exact sq_nil (then_j ⟨(hF.keep ⟨rfl, rfl, rfl, (boolV (and_t he23)), trivial⟩), hS⟩)
                  ·
                    have he23 : ((decide (1 ≤ x7.Port)) && (decide (x7.Port ≤ 16))) = false := nB he23
                    refine sq_no hF rfl rfl he23 (by rintro x ⟨⟩; decide) (fun a hF => ?_)
                    refine sq_no hF rfl rfl he23 (by rintro x ⟨⟩; decide) (fun a hF => ?_)
                    refine sq_no hF rfl rfl he23 (by rintro x ⟨⟩; decide) (fun a hF => ?_)
                    refine sq_val (v_pick_f hF rfl he23 rfl) hF (by decide) (fun a hF => ?_)
                    exact sq_nil (then_j ⟨(hF.keep ⟨rfl, rfl, rfl, (boolV (and_f he23)), trivial⟩), hS⟩)
              ·
                by_cases he22 : (decide (1 ≤ x7.Port)) = true
                ·
                  refine sq_yes hF rfl rfl he22 ?_
                  refine sq_val (v_fieldAddr hF rfl pf94_1) hF (by decide) (fun a hF => ?_)
                  refine sq_yes hF rfl rfl he22 ?_
                  refine sq_val (v_load1 hF rfl pa3 (cells_sub (vs := [.int .i64 (x7.Port)]) (hS.bc (i := 0) rfl) rfl rfl)) hF (by decide) (fun a hF => ?_)
                  refine sq_yes hF rfl rfl he22 ?_
                  refine sq_val (v_leq hF rfl rfl) hF (by decide) (fun a hF => ?_)
                  refine sq_val (v_pick_t hF rfl he22 rfl) hF (by decide) (fun a hF => ?_)
                  exact sq_nil (then_j ⟨(hF.keep ⟨rfl, rfl, rfl, (boolV (and_t he22)), trivial⟩), hS⟩)
                ·
                  have he22 : (decide (1 ≤ x7.Port)) = false := nB he22
                  refine sq_no hF rfl rfl he22 (by rintro x ⟨⟩; decide) (fun a hF => ?_)
                  refine sq_no hF rfl rfl he22 (by rintro x ⟨⟩; decide) (fun a hF => ?_)
                  refine sq_no hF rfl rfl he22 (by rintro x ⟨⟩; decide) (fun a hF => ?_)
                  refine sq_val (v_pick_f hF rfl he22 rfl) hF (by decide) (fun a hF => ?_)
                  exact sq_nil (then_j ⟨(hF.keep ⟨rfl, rfl, rfl, (boolV (and_f he22)), trivial⟩), hS⟩)
            ·
              replace h := ifF he21 h
              refine wp_seq ?_
              refine wp_reg ?_
              refine sq_val (v_eql hF rfl rfl) hF (by decide) (fun a hF => ?_)
              refine sq_val (v_assign hF rfl) hF (by decide) (fun a hF => ?_)
              refine sq_nil ?_
              refine then_n ?_
              obtain ⟨o26, h, hk27⟩ := bindS h
              refine wp_join (fun a W => ∃ (x25 : Bool), x25 = o26 ∧ FH 81 [(0, .slice A0_0 ((u0).length) c0_0), (3, .int .i64 (x2)), (5, .bool (x25))] a ∧ St M w0 [] [] [fSl k_TAct A0_0 c0_0 u0] W) (fun a W hJ => ?_) ?_
              ·
                obtain ⟨x25, rfl, hF, hS⟩ := hJ
                have h := hk27
                obtain rfl := Option.some.inj h
                exact then_j ⟨x25, rfl, (hF.keep ⟨rfl, rfl, rfl, trivial⟩), hS⟩
              ·
                refine wp_if hF rfl (fun he28 => ?_) (fun he28 => ?_)
                ·
                  replace h := ifT he28 h
                  refine wp_quiet rfl (by kernel_rfl) hS ?_
                  refine qt_val (fun W hC => (v_fieldAddr hF rfl pf94_1)) hF (by decide) (fun a hF => ?_)
                  refine qt_val (fun W hC => (v_load1 hF rfl pa3 (cells_sub (vs := [.int .i64 (x7.Port)]) (hC.2.bc (i := 0) rfl) rfl rfl))) hF (by decide) (fun a hF => ?_)
                  refine qt_val (fun W hC => (v_eql hF rfl rfl)) hF (by decide) (fun a hF => ?_)
                  refine qt_val (fun W hC => (v_move hF rfl)) hF (by decide) (fun a hF => ?_)
                  refine qt_cut 4 (fun a => FH 81 [(0, .slice A0_0 ((u0).length) c0_0), (3, .int .i64 (x2)), (4, .pointer (some (⟨b13, 0, none⟩))), (47, .bool ((x7.Port == 0) && (decide (0 ≤ x7.Field))))] a) (fun a hF => ?_) ?_
                  ·
                    refine qt_val (fun W hC => (v_move hF rfl)) hF (by decide) (fun a hF => ?_)
                    refine qt_cut 4 (fun a => FH 81 [(0, .slice A0_0 ((u0).length) c0_0), (3, .int .i64 (x2)), (4, .pointer (some (⟨b13, 0, none⟩))), (52, .bool (((x7.Port == 0) && (decide (0 ≤ x7.Field))) && (decide (x7.Field < 12))))] a) (fun a hF => ?_) ?_
                    ·
                      refine qt_val (fun W hC => (v_move hF rfl)) hF (by decide) (fun a hF => ?_)
                      obtain ⟨x32, h, hk34⟩ := bindS h
                      refine qt_cut 7 (fun a => FH 81 [(0, .slice A0_0 ((u0).length) c0_0), (3, .int .i64 (x2)), (60, .bool x32)] a) (fun a hF => ?_) ?_
                      ·
                        have h := hk34
                        refine qt_val (fun W hC => (v_assign hF rfl)) hF (by decide) (fun a hF => ?_)
                        refine qt_nil ?_
                        intro W hC
                        have hS := hC.2
                        obtain rfl := Option.some.inj h
                        exact then_j ⟨x32, rfl, (hF.keep ⟨rfl, rfl, rfl, trivial⟩), (hS.keep (List.nil_sublist _) (List.Sublist.refl _) ⟨⟨1, rfl⟩, trivial⟩)⟩
                      ·
                        by_cases he31 : (((x7.Port == 0) && (decide (0 ≤ x7.Field))) && (decide (x7.Field < 12))) = true
                        ·
                          replace h := ifT he31 h
                          refine qt_yes hF rfl rfl he31 ?_
                          refine qt_val (fun W hC => (v_fieldAddr hF rfl pf94_3)) hF (by decide) (fun a hF => ?_)
                          refine qt_yes hF rfl rfl he31 ?_
                          refine qt_val (fun W hC => (v_load1 hF rfl pa22 (cells_sub (vs := [.int .u64 (x7.Value)]) (hC.2.bc (i := 0) rfl) rfl rfl))) hF (by decide) (fun a hF => ?_)
                          refine qt_yes hF rfl rfl he31 ?_
                          refine qt_val (fun W hC => (v_fieldAddr hF rfl pf94_2)) hF (by decide) (fun a hF => ?_)
                          refine qt_yes hF rfl rfl he31 ?_
                          refine qt_val (fun W hC => (v_load1 hF rfl pa3 (cells_sub (vs := [.int .i64 (x7.Field)]) (hC.2.bc (i := 0) rfl) rfl rfl))) hF (by decide) (fun a hF => ?_)
                          refine qt_yes hF rfl rfl he31 ?_
                          obtain ⟨x35, hx36, h⟩ := bindS h
                          refine qt_call hF pc110 rfl (by decide) (fun W hC => q_of hC (ok_ref01_Size (hC.2.enter trivial) hx36)) (fun a hF => ?_)
                          refine qt_yes hF rfl rfl he31 ?_
                          obtain ⟨x37, hx38, h⟩ := bindS h
                          refine qt_call hF pc114 rfl (by decide) (fun W hC => q_of hC (ok_ref01_Fits (hC.2.enter trivial) hx38)) (fun a hF => ?_)
                          refine qt_val (fun W hC => (v_pick_t hF rfl he31 rfl)) hF (by decide) (fun a hF => ?_)
                          obtain rfl := Option.some.inj h
                          exact qt_nil (hF.keep ⟨rfl, rfl, rfl, trivial⟩)
                        ·
                          have he31 : (((x7.Port == 0) && (decide (0 ≤ x7.Field))) && (decide (x7.Field < 12))) = false := nB he31
                          replace h := ifF he31 h
                          refine qt_no hF rfl rfl he31 (by decide) (fun a hF => ?_)
                          refine qt_no hF rfl rfl he31 (by decide) (fun a hF => ?_)
                          refine qt_no hF rfl rfl he31 (by decide) (fun a hF => ?_)
                          refine qt_no hF rfl rfl he31 (by decide) (fun a hF => ?_)
                          refine qt_no hF rfl rfl he31 (by decide) (fun a hF => ?_)
                          refine qt_no hF rfl rfl he31 (by decide) (fun a hF => ?_)
                          refine qt_val (fun W hC => (v_pick_f hF rfl he31 rfl)) hF (by decide) (fun a hF => ?_)
                          obtain rfl := Option.some.inj h
                          exact qt_nil (hF.keep ⟨rfl, rfl, rfl, trivial⟩)
                    ·
                      by_cases he30 : ((x7.Port == 0) && (decide (0 ≤ x7.Field))) = true
                      ·
                        refine qt_yes hF rfl rfl he30 ?_
                        refine qt_val (fun W hC => (v_fieldAddr hF rfl pf94_2)) hF (by decide) (fun a hF => ?_)
                        refine qt_yes hF rfl rfl he30 ?_
                        refine qt_val (fun W hC => (v_load1 hF rfl pa3 (cells_sub (vs := [.int .i64 (x7.Field)]) (hC.2.bc (i := 0) rfl) rfl rfl))) hF (by decide) (fun a hF => ?_)
                        refine qt_yes hF rfl rfl he30 ?_
                        refine qt_val (fun W hC => (v_lss hF rfl rfl)) hF (by decide) (fun a hF => ?_)
                        refine qt_val (fun W hC => (v_pick_t hF rfl he30 rfl)) hF (by decide) (fun a hF => ?_)
                        exact qt_nil (hF.keep ⟨rfl, rfl, rfl, (boolV (and_t he30)), trivial⟩)
                      ·
                        have he30 : ((x7.Port == 0) && (decide (0 ≤ x7.Field))) = false := nB he30
                        refine qt_no hF rfl rfl he30 (by decide) (fun a hF => ?_)
                        refine qt_no hF rfl rfl he30 (by decide) (fun a hF => ?_)
                        refine qt_no hF rfl rfl he30 (by decide) (fun a hF => ?_)
                        refine qt_val (fun W hC => (v_pick_f hF rfl he30 rfl)) hF (by decide) (fun a hF => ?_)
                        exact qt_nil (hF.keep ⟨rfl, rfl, rfl, (boolV (and_f he30)), trivial⟩)
                  ·
                    by_cases he29 : (x7.Port == 0) = true
                    ·
                      refine qt_yes hF rfl rfl he29 ?_
                      refine qt_val (fun W hC => (v_fieldAddr hF rfl pf94_2)) hF (by decide) (fun a hF => ?_)
                      refine qt_yes hF rfl rfl he29 ?_
                      refine qt_val (fun W hC => (v_load1 hF rfl pa3 (cells_sub (vs := [.int .i64 (x7.Field)]) (hC.2.bc (i := 0) rfl) rfl rfl))) hF (by decide) (fun a hF => ?_)
                      refine qt_yes hF rfl rfl he29 ?_
                      refine qt_val (fun W hC => (v_geq hF rfl rfl)) hF (by decide) (fun a hF => ?_)
                      refine qt_val (fun W hC => (v_pick_t hF rfl he29 rfl)) hF (by decide) (fun a hF => ?_)
                      exact qt_nil (hF.keep ⟨rfl, rfl, rfl, (boolV (and_t he29)), trivial⟩)
                    ·
                      have he29 : (x7.Port == 0) = false := nB he29
                      refine qt_no hF rfl rfl he29 (by decide) (fun a hF => ?_)
                      refine qt_no hF rfl rfl he29 (by decide) (fun a hF => ?_)
                      refine qt_no hF rfl rfl he29 (by decide) (fun a hF => ?_)
                      refine qt_val (fun W hC => (v_pick_f hF rfl he29 rfl)) hF (by decide) (fun a hF => ?_)
                      exact qt_nil (hF.keep ⟨rfl, rfl, rfl, (boolV (and_f he29)), trivial⟩)
                ·
                  replace h := ifF he28 h
                  refine wp_seq ?_
                  refine wp_reg ?_
                  refine sq_val (v_eql hF rfl rfl) hF (by decide) (fun a hF => ?_)
                  refine sq_val (v_assign hF rfl) hF (by decide) (fun a hF => ?_)
                  refine sq_nil ?_
                  refine then_n ?_
                  obtain ⟨o40, h, hk41⟩ := bindS h
                  refine wp_join (fun a W => ∃ (x39 : Bool), x39 = o40 ∧ FH 81 [(0, .slice A0_0 ((u0).length) c0_0), (3, .int .i64 (x2)), (5, .bool (x39))] a ∧ St M w0 [] [] [fSl k_TAct A0_0 c0_0 u0] W) (fun a W hJ => ?_) ?_
                  ·
                    obtain ⟨x39, rfl, hF, hS⟩ := hJ
                    have h := hk41
                    obtain rfl := Option.some.inj h
                    exact then_j ⟨x39, rfl, (hF.keep ⟨rfl, rfl, rfl, trivial⟩), hS⟩
                  ·
                    refine wp_if hF rfl (fun he42 => ?_) (fun he42 => ?_)
                    ·
                      replace h := ifT he42 h
                      refine wp_reg ?_
                      refine sq_val (v_fieldAddr hF rfl pf94_1) hF (by decide) (fun a hF => ?_)
                      refine sq_val (v_load1 hF rfl pa3 (cells_sub (vs := [.int .i64 (x7.Port)]) (hS.bc (i := 0) rfl) rfl rfl)) hF (by decide) (fun a hF => ?_)
                      refine sq_val (v_eql hF rfl rfl) hF (by decide) (fun a hF => ?_)
                      refine sq_val (v_move hF rfl) hF (by decide) (fun a hF => ?_)
                      refine sq_cut 4 (fun a W => FH 81 [(0, .slice A0_0 ((u0).length) c0_0), (3, .int .i64 (x2)), (4, .pointer (some (⟨b13, 0, none⟩))), (70, .bool ((x7.Port == 0) && (x7.Field == 0)))] a ∧ St M w0 [⟨b13, TAct.enc x7, 94⟩] [] [fAt k_TAct (p9.add (x2.toNat * 4)) (TAct.enc x7) x7, fSl k_TAct A0_0 c0_0 u0] W) (fun a W hJ => ?_) ?_
                      ·
                        obtain ⟨hF, hS⟩ := hJ
                        refine sq_val (v_move hF rfl) hF (by decide) (fun a hF => ?_)
                        refine sq_cut 4 (fun a W => FH 81 [(0, .slice A0_0 ((u0).length) c0_0), (3, .int .i64 (x2)), (75, .bool (((x7.Port == 0) && (x7.Field == 0)) && (x7.Value == 0)))] a ∧ St M w0 [⟨b13, TAct.enc x7, 94⟩] [] [fAt k_TAct (p9.add (x2.toNat * 4)) (TAct.enc x7) x7, fSl k_TAct A0_0 c0_0 u0] W) (fun a W hJ => ?_) ?_
                        ·
                          obtain ⟨hF, hS⟩ := hJ
                          refine sq_val (v_assign hF rfl) hF (by decide) (fun a hF => ?_)
                          refine sq_nil ?_
                          obtain rfl := Option.some.inj h
                          exact then_j ⟨(((x7.Port == 0) && (x7.Field == 0)) && (x7.Value == 0)), rfl, (hF.keep ⟨rfl, rfl, rfl, trivial⟩), (hS.keep (List.nil_sublist _) (List.Sublist.refl _) ⟨⟨1, rfl⟩, trivial⟩)⟩
                        ·
                          by_cases he44 : ((x7.Port == 0) && (x7.Field == 0)) = true
                          ·
                            refine sq_yes hF rfl rfl he44 ?_
                            refine sq_val (v_fieldAddr hF rfl pf94_3) hF (by decide) (fun a hF => ?_)
                            refine sq_yes hF rfl rfl he44 ?_
                            refine sq_val (v_load1 hF rfl pa22 (cells_sub (vs := [.int .u64 (x7.Value)]) (hS.bc (i := 0) rfl) rfl rfl)) hF (by decide) (fun a hF => ?_)
                            refine sq_yes hF rfl rfl he44 ?_
                            refine sq_val (v_eql hF rfl rfl) hF (by decide) (fun a hF => ?_)
                            refine sq_val (v_pick_t hF rfl he44 rfl) hF (by decide) (fun a hF => ?_)
                            exact sq_nil (then_j ⟨(hF.keep ⟨rfl, rfl, (boolV (and_t he44)), trivial⟩), hS⟩)
                          ·
                            have he44 : ((x7.Port == 0) && (x7.Field == 0)) = false := nB he44
                            refine sq_no hF rfl rfl he44 (by rintro x ⟨⟩; decide) (fun a hF => ?_)
                            refine sq_no hF rfl rfl he44 (by rintro x ⟨⟩; decide) (fun a hF => ?_)
                            refine sq_no hF rfl rfl he44 (by rintro x ⟨⟩; decide) (fun a hF => ?_)
                            refine sq_val (v_pick_f hF rfl he44 rfl) hF (by decide) (fun a hF => ?_)
                            exact sq_nil (then_j ⟨(hF.keep ⟨rfl, rfl, (boolV (and_f he44)), trivial⟩), hS⟩)
                      ·
                        by_cases he43 : (x7.Port == 0) = true
                        ·
                          refine sq_yes hF rfl rfl he43 ?_
                          refine sq_val (v_fieldAddr hF rfl pf94_2) hF (by decide) (fun a hF => ?_)
                          refine sq_yes hF rfl rfl he43 ?_
                          refine sq_val (v_load1 hF rfl pa3 (cells_sub (vs := [.int .i64 (x7.Field)]) (hS.bc (i := 0) rfl) rfl rfl)) hF (by decide) (fun a hF => ?_)
                          refine sq_yes hF rfl rfl he43 ?_
                          refine sq_val (v_eql hF rfl rfl) hF (by decide) (fun a hF => ?_)
                          refine sq_val (v_pick_t hF rfl he43 rfl) hF (by decide) (fun a hF => ?_)
                          exact sq_nil (then_j ⟨(hF.keep ⟨rfl, rfl, rfl, (boolV (and_t he43)), trivial⟩), hS⟩)
                        ·
                          have he43 : (x7.Port == 0) = false := nB he43
                          refine sq_no hF rfl rfl he43 (by rintro x ⟨⟩; decide) (fun a hF => ?_)
                          refine sq_no hF rfl rfl he43 (by rintro x ⟨⟩; decide) (fun a hF => ?_)
                          refine sq_no hF rfl rfl he43 (by rintro x ⟨⟩; decide) (fun a hF => ?_)
                          refine sq_val (v_pick_f hF rfl he43 rfl) hF (by decide) (fun a hF => ?_)
                          exact sq_nil (then_j ⟨(hF.keep ⟨rfl, rfl, rfl, (boolV (and_f he43)), trivial⟩), hS⟩)
                    ·
                      replace h := ifF he42 h
                      refine wp_skip ?_
                      obtain rfl := Option.some.inj h
                      exact then_j ⟨false, rfl, (hF.keep ⟨rfl, rfl, rfl, trivial⟩), (hS.keep (List.nil_sublist _) (List.Sublist.refl _) ⟨⟨1, rfl⟩, trivial⟩)⟩
      ·
        replace h := ifF he6 h
        refine wp_exit ?_
        refine then_x ?_
        refine then_x ?_
        refine blk_hit ?_
        obtain rfl := Option.some.inj h
        exact then_j ⟨rfl, (hF.keep ⟨rfl, trivial⟩), hS⟩

theorem ok_ref04_span {M : Nat → Prop} {w0 : World} {u0 : Int} {u1 : Int} {o : Bool} (hS : St M w0 [] [] [] w0) (h : ref04_span u0 u1 = some o) :
    Calls Try.prog 80 #[.int .i64 (u0), .int .i64 (u1)] w0 fun e W' => ∃ v, e = .returned v ∧ (v = .bool (o) ∧ St M w0 [] [] [] W') := by
  unfold ref04_span at h
  refine calls_start (args := [.int .i64 (u0), .int .i64 (u1)]) Try.func80 rfl rfl (Nat.le_of_ble_eq_true rfl) (fun a hF => ?_)
  refine wp_seq ?_
  refine wp_reg ?_
  refine sq_val (v_assign hF rfl) hF (by decide) (fun a hF => ?_)
  refine sq_nil ?_
  refine then_n ?_
  refine wp_seq ?_
  refine wp_reg ?_
  refine sq_val (v_move hF rfl) hF (by decide) (fun a hF => ?_)
  refine sq_val (v_geq hF rfl rfl) hF (by decide) (fun a hF => ?_)
  refine sq_val (v_move hF rfl) hF (by decide) (fun a hF => ?_)
  refine sq_cut 4 (fun a W => FH 12 [(11, .bool ((decide (0 ≤ u0)) && (decide (u0 ≤ u1))))] a ∧ St M w0 [] [] [] W) (fun a W hJ => ?_) ?_
  ·
    obtain ⟨hF, hS⟩ := hJ
    refine sq_val (v_assign hF rfl) hF (by decide) (fun a hF => ?_)
    refine sq_nil ?_
    refine then_n ?_
    refine wp_ret ?_
    obtain rfl := Option.some.inj h
    exact ret1 hF rfl (rv_tmp hF rfl) ⟨_, rfl, rfl, hS⟩
  ·
    by_cases he1 : (decide (0 ≤ u0)) = true
    ·
      refine sq_yes hF rfl rfl he1 ?_
      refine sq_val (v_move hF rfl) hF (by decide) (fun a hF => ?_)
      refine sq_yes hF rfl rfl he1 ?_
      refine sq_val (v_move hF rfl) hF (by decide) (fun a hF => ?_)
      refine sq_yes hF rfl rfl he1 ?_
      refine sq_val (v_leq hF rfl rfl) hF (by decide) (fun a hF => ?_)
      refine sq_val (v_pick_t hF rfl he1 rfl) hF (by decide) (fun a hF => ?_)
      exact sq_nil (then_j ⟨(hF.keep ⟨(boolV (and_t he1)), trivial⟩), hS⟩)
    ·
      have he1 : (decide (0 ≤ u0)) = false := nB he1
      refine sq_no hF rfl rfl he1 (by rintro x ⟨⟩; decide) (fun a hF => ?_)
      refine sq_no hF rfl rfl he1 (by rintro x ⟨⟩; decide) (fun a hF => ?_)
      refine sq_no hF rfl rfl he1 (by rintro x ⟨⟩; decide) (fun a hF => ?_)
      refine sq_val (v_pick_f hF rfl he1 rfl) hF (by decide) (fun a hF => ?_)
      exact sq_nil (then_j ⟨(hF.keep ⟨(boolV (and_f he1)), trivial⟩), hS⟩)
end Go.Proofs.Ytangebngeeamoaa
