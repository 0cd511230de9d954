/- What calls of the Go functions come to. -/
import Derived.Test.YtangebngeeamoaaW4
set_option linter.unusedVariables false
set_option linter.unusedSimpArgs false
set_option maxRecDepth 100000
set_option maxHeartbeats 4000000
namespace Go.Proofs.Ytangebngeeamoaa
open Go.RowKit Go.Pod
theorem ok_ref01_Text (k : Nat) {M : Nat → Prop} {w0 : World} {u0 : TCube} {o : ByteArray × Bool} (hS : St M w0 [] [] [] w0) (h : ref01_Text k u0 = some o) :
    Calls Try.prog 55 #[.agg (TCube.enc u0).toArray] w0 fun e W' => ∃ v, e = .returned v ∧ (v = .tuple #[.string (o.1), .bool (o.2)] ∧ St M w0 [] [] [] W') := by
  unfold ref01_Text at h
  refine calls_start (args := [.agg (TCube.enc u0).toArray]) Try.func55 rfl rfl (Nat.le_of_ble_eq_true rfl) (fun a hF => ?_)
  refine wp_seq ?_
  refine wp_reg ?_
  refine sq_box hF hS rfl rfl (by decide) (fun b1 a W hF hS => ?_)
  refine sq_val (v_assign hF rfl) hF (by decide) (fun a hF => ?_)
  refine sq_val (v_assign hF rfl) hF (by decide) (fun a hF => ?_)
  refine sq_nil ?_
  refine then_n ?_
  refine wp_seq ?_
  refine wp_reg ?_
  refine sq_val (v_assign hF rfl) hF (by decide) (fun a hF => ?_)
  refine sq_nil ?_
  refine then_n ?_
  refine wp_seq ?_
  refine wp_reg ?_
  refine sq_val (v_fieldAddr hF rfl pf26_1) hF (by decide) (fun a hF => ?_)
  refine sq_val (v_load (cs := A12u64.enc u0.Care) hF rfl pa24 ps24 (cells_sub (vs := A12u64.enc u0.Care) (hS.bc (i := 0) rfl) rfl rfl)) hF (by decide) (fun a hF => ?_)
  obtain ⟨x2, hx3, h⟩ := bindS h
  refine sq_call hF pc61 rfl (by decide) (ok_ref01_Head k (hS.enter trivial) hx3) (fun v W hR a hF => ?_)
  obtain ⟨rfl, hT4⟩ := hR
  have hS := hS.grow hT4.below
  refine sq_val (v_assign hF rfl) hF (by decide) (fun a hF => ?_)
  refine sq_nil ?_
  refine then_n ?_
  refine wp_seq ?_
  refine wp_seq ?_
  refine wp_reg ?_
  refine sq_val (v_assign hF rfl) hF (by decide) (fun a hF => ?_)
  refine sq_nil ?_
  refine then_n ?_
  obtain ⟨o19, h, hk20⟩ := bindS h
  refine wp_join (fun a W => ∃ (x15 : List Int) (x18 : Bool) (A16 : Option Addr) (c17 : Nat), (x15, x18) = o19 ∧ FH 70 [(4, .slice A16 ((x15).length) c17), (5, .bool (x18))] a ∧ St M w0 [] [⟨(kInt .u8), 5, A16, c17, x15⟩] [] W) (fun a W hJ => ?_) ?_
  ·
    obtain ⟨x15, x18, A16, c17, rfl, hF, hS⟩ := hJ
    have h := hk20
    dsimp only at h
    refine then_n ?_
    refine wp_seq ?_
    refine wp_reg ?_
    refine sq_val (v_move hF rfl) hF (by decide) (fun a hF => ?_)
    refine sq_val (v_toStr hF rfl (hS.rw_ (i := 0) rfl).src pu82 pu5 pu9) hF (by decide) (fun a hF => ?_)
    refine sq_val (v_move hF rfl) hF (by decide) (fun a hF => ?_)
    refine sq_val (v_assign hF rfl) hF (by decide) (fun a hF => ?_)
    refine sq_val (v_assign hF rfl) hF (by decide) (fun a hF => ?_)
    refine sq_nil ?_
    refine then_n ?_
    refine wp_ret ?_
    obtain rfl := Option.some.inj h
    exact ret2 hF rfl (rv_tmp hF rfl) (rv_tmp hF rfl) ⟨_, rfl, rfl, (hS.keep (List.Sublist.refl _) (List.nil_sublist _) trivial)⟩
  ·
    have hS := hS.addNil (kInt .u8) 5
    refine wp_block ?_
    refine wp_loop_fuel (I := fun m a W => ∃ (x10 : List Int) (x13 : Bool) (x14 : Int) (A11 : Option Addr) (c12 : Nat), FH 70 [(1, .pointer (some (⟨b1, 0, none⟩))), (4, .slice A11 ((x10).length) c12), (5, .bool (x13)), (6, .int .i64 (x14))] a ∧ St M w0 [⟨b1, TCube.enc u0, 26⟩] [⟨(kInt .u8), 5, A11, c12, x10⟩] [] W ∧ (ref01_Text.l0 k u0 m x10 x13 x14) = some o19) ?_ (k := k) ⟨([]), x2, 0, none, 0, (hF.keep ⟨rfl, rfl, rfl, rfl, trivial⟩), hS, h⟩
    rintro m21 a W ⟨x10, x13, x14, A11, c12, hF, hS, h⟩
    cases m21 with
    | zero => cases h
    | succ m21 =>
      rw [ref01_Text.l0] at h
      refine wp_seq ?_
      refine wp_seq ?_
      refine wp_reg ?_
      refine sq_val (v_move hF rfl) hF (by decide) (fun a hF => ?_)
      refine sq_val (v_lss hF rfl rfl) hF (by decide) (fun a hF => ?_)
      refine sq_nil ?_
      refine then_n ?_
      refine wp_if hF rfl (fun he22 => ?_) (fun he22 => ?_)
      ·
        replace h := ifT he22 h
        refine wp_skip ?_
        refine then_n ?_
        refine wp_seq ?_
        refine wp_block ?_
        refine wp_seq ?_
        refine wp_seq ?_
        refine wp_quiet rfl (by kernel_rfl) hS ?_
        refine qt_val (fun W hC => (v_move hF rfl)) hF (by decide) (fun a hF => ?_)
        refine qt_val (fun W hC => (v_fieldAddr hF rfl pf26_0)) hF (by decide) (fun a hF => ?_)
        obtain ⟨hb23, h⟩ := ifS h
        refine qt_val (fun W hC => (v_indexAddr hF rfl rfl par24 hb23.1 hb23.2)) hF (by decide) (fun a hF => ?_)
        refine qt_val (fun W hC => (v_load1 hF rfl pa22 (cells_sub (vs := [.int .u64 ((u0.Value.at x14))]) (hC.2.bc (i := 0) rfl) (add_add _ _ _) (TCube.get_Value u0 x14 hb23.1 hb23.2)))) hF (by decide) (fun a hF => ?_)
        refine qt_val (fun W hC => (v_move hF rfl)) hF (by decide) (fun a hF => ?_)
        refine qt_val (fun W hC => (v_fieldAddr hF rfl pf26_1)) hF (by decide) (fun a hF => ?_)
        refine qt_val (fun W hC => (v_indexAddr hF rfl rfl par24 hb23.1 hb23.2)) hF (by decide) (fun a hF => ?_)
        refine qt_val (fun W hC => (v_load1 hF rfl pa22 (cells_sub (vs := [.int .u64 ((u0.Care.at x14))]) (hC.2.bc (i := 0) rfl) (add_add _ _ _) (TCube.get_Care u0 x14 hb23.1 hb23.2)))) hF (by decide) (fun a hF => ?_)
        refine qt_val (fun W hC => (v_andNot hF rfl rfl)) hF (by decide) (fun a hF => ?_)
        refine qt_val (fun W hC => (v_neq hF rfl rfl)) hF (by decide) (fun a hF => ?_)
        refine qt_nil ?_
        intro W hC
        have hS := hC.2
        refine then_n ?_
        obtain ⟨o25, h, hk26⟩ := bindS h
        refine wp_join (fun a W => ∃ (x24 : Bool), x24 = o25 ∧ FH 70 [(1, .pointer (some (⟨b1, 0, none⟩))), (4, .slice A11 ((x10).length) c12), (5, .bool (x24)), (6, .int .i64 (x14))] a ∧ St M w0 [⟨b1, TCube.enc u0, 26⟩] [⟨(kInt .u8), 5, A11, c12, x10⟩] [] W) (fun a W hJ => ?_) ?_
        ·
          obtain ⟨x24, rfl, hF, hS⟩ := hJ
          have h := hk26
          refine then_n ?_
          refine wp_seq ?_
          refine wp_drawn (QC M w0 [⟨b1, TCube.enc u0, 26⟩] [⟨(kInt .u8), 5, A11, c12, x10⟩] []) (fun _ => false) rfl hS (fun W hB0 hR0 => ?_)
          have hS := hR0
          have hQC : (QC M w0 [⟨b1, TCube.enc u0, 26⟩] [⟨(kInt .u8), 5, A11, c12, x10⟩] []) W W := ⟨Bl.refl _ _, hS⟩
          refine e_val (listed' := #[true, false, false, false, false, false, false, false, false, false, false, false, false, false, false, false]) 0 rfl (by kernel_rfl) (by kernel_rfl) (fun _ _ _ h => h) (fun W => (v_move hF rfl)) hF (by decide) (fun a hF => ?_)
          refine e_val (listed' := #[true, true, false, false, false, false, false, false, false, false, false, false, false, false, false, false]) 1 rfl (by kernel_rfl) (by kernel_rfl) (fun _ _ _ h => h) (fun W => (v_fieldAddr hF rfl pf26_0)) hF (by decide) (fun a hF => ?_)
          refine e_val (listed' := #[true, true, true, false, false, false, false, false, false, false, false, false, false, false, false, false]) 2 rfl (by kernel_rfl) (by kernel_rfl) (fun _ _ _ h => h) (fun W => (v_indexAddr hF rfl rfl par24 hb23.1 hb23.2)) hF (by decide) (fun a hF => ?_)
          refine e_valS (listed' := #[true, true, true, true, false, false, false, false, false, false, false, false, false, false, false, false]) 3 rfl (by kernel_rfl) (by kernel_rfl) (fun _ _ _ h => h) (fun W hC => (v_load1 hF rfl pa22 (cells_sub (vs := [.int .u64 ((u0.Value.at x14))]) (hC.2.bc (i := 0) rfl) (add_add _ _ _) (TCube.get_Value u0 x14 hb23.1 hb23.2)))) hQC (by kernel_rfl) hF (by decide) (fun a hF => ?_)
          refine e_val (listed' := #[true, true, true, true, true, false, false, false, false, false, false, false, false, false, false, false]) 4 rfl (by kernel_rfl) (by kernel_rfl) (fun _ _ _ h => h) (fun W => (v_move hF rfl)) hF (by decide) (fun a hF => ?_)
          refine e_val (listed' := #[true, true, true, true, true, false, false, true, false, false, false, false, false, false, false, false]) 7 rfl (by kernel_rfl) (by kernel_rfl) (fun _ _ _ h => h) (fun W => (v_move hF rfl)) hF (by decide) (fun a hF => ?_)
          refine e_val (listed' := #[true, true, true, true, true, false, false, true, true, false, false, false, false, false, false, false]) 8 rfl (by kernel_rfl) (by kernel_rfl) (fun _ _ _ h => h) (fun W => (v_fieldAddr hF rfl pf26_1)) hF (by decide) (fun a hF => ?_)
          refine e_val (listed' := #[true, true, true, true, true, false, false, true, true, true, false, false, false, false, false, false]) 9 rfl (by kernel_rfl) (by kernel_rfl) (fun _ _ _ h => h) (fun W => (v_indexAddr hF rfl rfl par24 hb23.1 hb23.2)) hF (by decide) (fun a hF => ?_)
          refine e_valS (listed' := #[true, true, true, true, true, false, false, true, true, true, true, false, false, false, false, false]) 10 rfl (by kernel_rfl) (by kernel_rfl) (fun _ _ _ h => h) (fun W hC => (v_load1 hF rfl pa22 (cells_sub (vs := [.int .u64 ((u0.Care.at x14))]) (hC.2.bc (i := 0) rfl) (add_add _ _ _) (TCube.get_Care u0 x14 hb23.1 hb23.2)))) hQC (by kernel_rfl) hF (by decide) (fun a hF => ?_)
          refine e_val (listed' := #[true, true, true, true, true, false, false, true, true, true, true, true, false, false, false, false]) 11 rfl (by kernel_rfl) (by kernel_rfl) (fun _ _ _ h => h) (fun W => (v_move hF rfl)) hF (by decide) (fun a hF => ?_)
          refine e_one (listed' := #[true, true, true, true, true, true, false, true, true, true, true, true, false, false, false, false]) 5 rfl (by kernel_rfl) (by kernel_rfl) ?_
          obtain ⟨x27, hx28, h⟩ := bindS h
          refine sq_call hF pc110 rfl (by decide) (ok_ref01_Size (hS.enter trivial) hx28) (fun v W hR a hF => ?_)
          obtain ⟨rfl, hT29⟩ := hR
          have hS := hS.grow hT29.below
          refine sq_nil (then_j ⟨?_, ?_⟩)
          · exact fun hQ0 _ => hQ0.next hT29.below
          ·
            have hQC := hQC.next hT29.below
            refine e_one (listed' := #[true, true, true, true, true, true, true, true, true, true, true, true, false, false, false, false]) 6 rfl (by kernel_rfl) (by kernel_rfl) ?_
            obtain ⟨x30, hx31, h⟩ := bindS h
            refine sq_call hF pc109 rfl (by decide) (ok_ref01_Bits k (hS.enter trivial) hx31) (fun v W hR a hF => ?_)
            obtain ⟨A32, c33, rfl, hT34⟩ := hR
            have hS := hS.join hT34
            refine sq_nil (then_j ⟨?_, ?_⟩)
            · exact fun hQ0 _ => hQ0.next hT34.below
            ·
              have hQC := hQC.next hT34.below
              refine e_one (listed' := #[true, true, true, true, true, true, true, true, true, true, true, true, true, false, false, false]) 12 rfl (by kernel_rfl) (by kernel_rfl) ?_
              refine sq_call hF pc110 rfl (by decide) (ok_ref01_Size (hS.enter trivial) hx28) (fun v W hR a hF => ?_)
              obtain ⟨rfl, hT35⟩ := hR
              have hS := hS.grow hT35.below
              refine sq_nil (then_j ⟨?_, ?_⟩)
              · exact fun hQ0 _ => hQ0.next hT35.below
              ·
                have hQC := hQC.next hT35.below
                refine e_one (listed' := #[true, true, true, true, true, true, true, true, true, true, true, true, true, true, false, false]) 13 rfl (by kernel_rfl) (by kernel_rfl) ?_
                obtain ⟨x36, hx37, h⟩ := bindS h
                refine sq_call hF pc109 rfl (by decide) (ok_ref01_Bits k (hS.enter trivial) hx37) (fun v W hR a hF => ?_)
                obtain ⟨A38, c39, rfl, hT40⟩ := hR
                have hS := hS.join hT40
                refine sq_nil (then_j ⟨?_, ?_⟩)
                · exact fun hQ0 _ => hQ0.next hT40.below
                ·
                  have hQC := hQC.next hT40.below
                  refine e_val (listed' := #[true, true, true, true, true, true, true, true, true, true, true, true, true, true, true, false]) 14 rfl (by kernel_rfl) (by kernel_rfl) (fun _ _ _ h => h) (fun W => (v_assign hF rfl)) hF (by decide) (fun a hF => ?_)
                  refine e_val (listed' := #[true, true, true, true, true, true, true, true, true, true, true, true, true, true, true, true]) 15 rfl (by kernel_rfl) (by kernel_rfl) (fun _ _ _ h => h) (fun W => (v_assign hF rfl)) hF (by decide) (fun a hF => ?_)
                  refine e_done (by kernel_rfl) ?_ _
                  refine then_n ?_
                  refine wp_seq ?_
                  refine wp_reg ?_
                  refine sq_val (v_assign hF rfl) hF (by decide) (fun a hF => ?_)
                  refine sq_nil ?_
                  refine then_n ?_
                  obtain ⟨o52, h, hk53⟩ := bindS h
                  refine wp_join (fun a W => ∃ (x49 : List Int) (A50 : Option Addr) (c51 : Nat), x49 = o52 ∧ FH 70 [(1, .pointer (some (⟨b1, 0, none⟩))), (4, .slice A50 ((x49).length) c51), (5, .bool (x24)), (6, .int .i64 (x14))] a ∧ St M w0 [⟨b1, TCube.enc u0, 26⟩] [⟨(kInt .u8), 5, A50, c51, x49⟩] [] W) (fun a W hJ => ?_) ?_
                  ·
                    obtain ⟨x49, A50, c51, rfl, hF, hS⟩ := hJ
                    have h := hk53
                    refine blk_n ?_
                    refine then_n ?_
                    refine wp_reg ?_
                    refine sq_val (v_move hF rfl) hF (by decide) (fun a hF => ?_)
                    refine sq_val (v_add hF rfl rfl) hF (by decide) (fun a hF => ?_)
                    refine sq_val (v_assign hF rfl) hF (by decide) (fun a hF => ?_)
                    refine sq_nil ?_
                    exact then_j ⟨m21, Nat.lt_succ_self _, x49, x24, (IntKind.i64.wrap (x14 + 1)), A50, c51, (hF.keep ⟨rfl, rfl, rfl, rfl, trivial⟩), hS, h⟩
                  ·
                    have hS := hS.perm (List.Perm.refl _) (.trans (.cons _ (.swap _ _ _)) (.trans (.swap _ _ _) (List.Perm.refl _)))
                    refine wp_block ?_
                    refine wp_loop_fuel (I := fun m a W => ∃ (x45 : List Int) (x48 : Int) (A46 : Option Addr) (c47 : Nat), FH 70 [(1, .pointer (some (⟨b1, 0, none⟩))), (4, .slice A46 ((x45).length) c47), (5, .bool (x24)), (6, .int .i64 (x14)), (7, .slice A32 ((x30).length) c33), (8, .slice A38 ((x36).length) c39), (9, .int .i64 (x48))] a ∧ St M w0 [⟨b1, TCube.enc u0, 26⟩] [⟨(kInt .u8), 5, A46, c47, x45⟩, ⟨kBool, 4, A38, c39, x36⟩, ⟨kBool, 4, A32, c33, x30⟩] [] W ∧ (ref01_Text.l1 k x30 x36 m x45 x48) = some o52) ?_ (k := k) ⟨x10, 0, A11, c12, (hF.keep ⟨rfl, rfl, rfl, rfl, rfl, rfl, rfl, trivial⟩), hS, h⟩
                    rintro m54 a W ⟨x45, x48, A46, c47, hF, hS, h⟩
                    cases m54 with
                    | zero => cases h
                    | succ m54 =>
                      rw [ref01_Text.l1] at h
                      refine wp_seq ?_
                      refine wp_seq ?_
                      refine wp_reg ?_
                      refine sq_val (v_move hF rfl) hF (by decide) (fun a hF => ?_)
                      refine sq_val (v_move hF rfl) hF (by decide) (fun a hF => ?_)
                      refine sq_val (v_len hF rfl pu116) hF (by decide) (fun a hF => ?_)
                      refine sq_val (v_lss hF rfl rfl) hF (by decide) (fun a hF => ?_)
                      refine sq_nil ?_
                      refine then_n ?_
                      refine wp_if hF rfl (fun he55 => ?_) (fun he55 => ?_)
                      ·
                        replace h := ifT he55 h
                        refine wp_skip ?_
                        refine then_n ?_
                        refine wp_seq ?_
                        obtain ⟨o59, h, hk60⟩ := bindS h
                        refine wp_join (fun a W => ∃ (x56 : List Int) (A57 : Option Addr) (c58 : Nat), x56 = o59 ∧ FH 70 [(1, .pointer (some (⟨b1, 0, none⟩))), (4, .slice A57 ((x56).length) c58), (5, .bool (x24)), (6, .int .i64 (x14)), (7, .slice A32 ((x30).length) c33), (8, .slice A38 ((x36).length) c39), (9, .int .i64 (x48))] a ∧ St M w0 [⟨b1, TCube.enc u0, 26⟩] [⟨(kInt .u8), 5, A57, c58, x56⟩, ⟨kBool, 4, A38, c39, x36⟩, ⟨kBool, 4, A32, c33, x30⟩] [] W) (fun a W hJ => ?_) ?_
                        ·
                          obtain ⟨x56, A57, c58, rfl, hF, hS⟩ := hJ
                          have h := hk60
                          refine then_n ?_
                          refine wp_reg ?_
                          refine sq_val (v_move hF rfl) hF (by decide) (fun a hF => ?_)
                          refine sq_val (v_add hF rfl rfl) hF (by decide) (fun a hF => ?_)
                          refine sq_val (v_assign hF rfl) hF (by decide) (fun a hF => ?_)
                          refine sq_nil ?_
                          exact then_j ⟨m54, Nat.lt_succ_self _, x56, (IntKind.i64.wrap (x48 + 1)), A57, c58, (hF.keep ⟨rfl, rfl, rfl, rfl, rfl, rfl, rfl, trivial⟩), hS, h⟩
                        ·
                          refine wp_block ?_
                          obtain ⟨o64, h, hk65⟩ := bindS h
                          refine wp_join (fun a W => ∃ (x61 : List Int) (A62 : Option Addr) (c63 : Nat), x61 = o64 ∧ FH 70 [(1, .pointer (some (⟨b1, 0, none⟩))), (4, .slice A62 ((x61).length) c63), (5, .bool (x24)), (6, .int .i64 (x14)), (7, .slice A32 ((x30).length) c33), (8, .slice A38 ((x36).length) c39), (9, .int .i64 (x48))] a ∧ St M w0 [⟨b1, TCube.enc u0, 26⟩] [⟨(kInt .u8), 5, A62, c63, x61⟩, ⟨kBool, 4, A38, c39, x36⟩, ⟨kBool, 4, A32, c33, x30⟩] [] W) (fun a W hJ => ?_) ?_
                          ·
                            obtain ⟨x61, A62, c63, rfl, hF, hS⟩ := hJ
                            have h := hk65
                            refine blk_n ?_
                            obtain rfl := Option.some.inj h
                            exact then_j ⟨x61, A62, c63, rfl, (hF.keep ⟨rfl, rfl, rfl, rfl, rfl, rfl, rfl, trivial⟩), hS⟩
                          ·
                            refine wp_block ?_
                            refine wp_seq ?_
                            refine wp_reg ?_
                            refine sq_val (v_move hF rfl) hF (by decide) (fun a hF => ?_)
                            refine sq_val (v_move hF rfl) hF (by decide) (fun a hF => ?_)
                            obtain ⟨x66, hx67, h⟩ := bindS h
                            obtain ⟨p68, cs69, hA70, hc72, hr73⟩ := Row.ok.at (hS.rw_ (i := 1) rfl) hx67
                            obtain rfl : cs69 = [.bool (x66)] := hr73
                            refine sq_val (v_idx hF rfl hA70 rfl psl116 hx67) hF (by decide) (fun a hF => ?_)
                            refine sq_val (v_load1 hF rfl pa4 hc72) hF (by decide) (fun a hF => ?_)
                            refine sq_val (v_not hF rfl) hF (by decide) (fun a hF => ?_)
                            refine sq_val (v_assign hF rfl) hF (by decide) (fun a hF => ?_)
                            refine sq_nil ?_
                            refine then_n ?_
                            obtain ⟨o77, h, hk78⟩ := bindS h
                            refine wp_join (fun a W => ∃ (x74 : List Int) (A75 : Option Addr) (c76 : Nat), x74 = o77 ∧ FH 70 [(1, .pointer (some (⟨b1, 0, none⟩))), (4, .slice A75 ((x74).length) c76), (5, .bool (x24)), (6, .int .i64 (x14)), (7, .slice A32 ((x30).length) c33), (8, .slice A38 ((x36).length) c39), (9, .int .i64 (x48))] a ∧ St M w0 [⟨b1, TCube.enc u0, 26⟩] [⟨(kInt .u8), 5, A75, c76, x74⟩, ⟨kBool, 4, A38, c39, x36⟩, ⟨kBool, 4, A32, c33, x30⟩] [] W) (fun a W hJ => ?_) ?_
                            ·
                              obtain ⟨x74, A75, c76, rfl, hF, hS⟩ := hJ
                              have h := hk78
                              refine blk_n ?_
                              obtain rfl := Option.some.inj h
                              exact then_j ⟨x74, A75, c76, rfl, (hF.keep ⟨rfl, rfl, rfl, rfl, rfl, rfl, rfl, trivial⟩), hS⟩
                            ·
                              refine wp_if hF rfl (fun he79 => ?_) (fun he79 => ?_)
                              ·
                                replace h := ifT he79 h
                                refine wp_reg ?_
                                refine sq_val (v_move hF rfl) hF (by decide) (fun a hF => ?_)
                                refine sq_buildSlice (κ := (kInt .u8)) (xs := [.const (.int .u8 120)]) (ys := [120]) hF hS rfl rfl rfl (Els.cons rfl (Els.nil _ _ _)) rfl psl82 pz5 rfl (by decide) (by decide) (by decide) (fun A80 c81 a W hF hS => ?_)
                                obtain ⟨x84, hx85, h⟩ := bindS h
                                refine sq_append (ys := ([120])) hF hS (i := 1) rfl rfl rfl (hS.rw_ (i := 0) rfl).src psl82 pb5 pz5 rfl (by decide) (by decide) hx85 (by decide) (fun A82 c83 a W hF hS => ?_)
                                refine sq_val (v_assign hF rfl) hF (by decide) (fun a hF => ?_)
                                refine sq_nil ?_
                                obtain rfl := Option.some.inj h
                                exact then_j ⟨x84, A82, c83, rfl, (hF.keep ⟨rfl, rfl, rfl, rfl, rfl, rfl, rfl, trivial⟩), (hS.keep (List.Sublist.refl _) (.cons _ (List.Sublist.refl _)) trivial)⟩
                              ·
                                replace h := ifF he79 h
                                refine wp_seq ?_
                                refine wp_reg ?_
                                refine sq_val (v_move hF rfl) hF (by decide) (fun a hF => ?_)
                                refine sq_val (v_move hF rfl) hF (by decide) (fun a hF => ?_)
                                obtain ⟨x86, hx87, h⟩ := bindS h
                                obtain ⟨p88, cs89, hA90, hc92, hr93⟩ := Row.ok.at (hS.rw_ (i := 2) rfl) hx87
                                obtain rfl : cs89 = [.bool (x86)] := hr93
                                refine sq_val (v_idx hF rfl hA90 rfl psl116 hx87) hF (by decide) (fun a hF => ?_)
                                refine sq_val (v_load1 hF rfl pa4 hc92) hF (by decide) (fun a hF => ?_)
                                refine sq_val (v_assign hF rfl) hF (by decide) (fun a hF => ?_)
                                refine sq_nil ?_
                                refine then_n ?_
                                obtain ⟨o97, h, hk98⟩ := bindS h
                                refine wp_join (fun a W => ∃ (x94 : List Int) (A95 : Option Addr) (c96 : Nat), x94 = o97 ∧ FH 70 [(1, .pointer (some (⟨b1, 0, none⟩))), (4, .slice A95 ((x94).length) c96), (5, .bool (x24)), (6, .int .i64 (x14)), (7, .slice A32 ((x30).length) c33), (8, .slice A38 ((x36).length) c39), (9, .int .i64 (x48))] a ∧ St M w0 [⟨b1, TCube.enc u0, 26⟩] [⟨(kInt .u8), 5, A95, c96, x94⟩, ⟨kBool, 4, A38, c39, x36⟩, ⟨kBool, 4, A32, c33, x30⟩] [] W) (fun a W hJ => ?_) ?_
                                ·
                                  obtain ⟨x94, A95, c96, rfl, hF, hS⟩ := hJ
                                  have h := hk98
                                  obtain rfl := Option.some.inj h
                                  exact then_j ⟨x94, A95, c96, rfl, (hF.keep ⟨rfl, rfl, rfl, rfl, rfl, rfl, rfl, trivial⟩), hS⟩
                                ·
                                  refine wp_if hF rfl (fun he99 => ?_) (fun he99 => ?_)
                                  ·
                                    replace h := ifT he99 h
                                    refine wp_reg ?_
                                    refine sq_val (v_move hF rfl) hF (by decide) (fun a hF => ?_)
                                    refine sq_buildSlice (κ := (kInt .u8)) (xs := [.const (.int .u8 49)]) (ys := [49]) hF hS rfl rfl rfl (Els.cons rfl (Els.nil _ _ _)) rfl psl82 pz5 rfl (by decide) (by decide) (by decide) (fun A100 c101 a W hF hS => ?_)
                                    obtain ⟨x104, hx105, h⟩ := bindS h
                                    refine sq_append (ys := ([49])) hF hS (i := 1) rfl rfl rfl (hS.rw_ (i := 0) rfl).src psl82 pb5 pz5 rfl (by decide) (by decide) hx105 (by decide) (fun A102 c103 a W hF hS => ?_)
                                    refine sq_val (v_assign hF rfl) hF (by decide) (fun a hF => ?_)
                                    refine sq_nil ?_
                                    obtain rfl := Option.some.inj h
                                    exact then_j ⟨x104, A102, c103, rfl, (hF.keep ⟨rfl, rfl, rfl, rfl, rfl, rfl, rfl, trivial⟩), (hS.keep (List.Sublist.refl _) (.cons _ (List.Sublist.refl _)) trivial)⟩
                                  ·
                                    replace h := ifF he99 h
                                    refine wp_reg ?_
                                    refine sq_val (v_move hF rfl) hF (by decide) (fun a hF => ?_)
                                    refine sq_buildSlice (κ := (kInt .u8)) (xs := [.const (.int .u8 48)]) (ys := [48]) hF hS rfl rfl rfl (Els.cons rfl (Els.nil _ _ _)) rfl psl82 pz5 rfl (by decide) (by decide) (by decide) (fun A106 c107 a W hF hS => ?_)
                                    obtain ⟨x110, hx111, h⟩ := bindS h
                                    refine sq_append (ys := ([48])) hF hS (i := 1) rfl rfl rfl (hS.rw_ (i := 0) rfl).src psl82 pb5 pz5 rfl (by decide) (by decide) hx111 (by decide) (fun A108 c109 a W hF hS => ?_)
                                    refine sq_val (v_assign hF rfl) hF (by decide) (fun a hF => ?_)
                                    refine sq_nil ?_
                                    obtain rfl := Option.some.inj h
                                    exact then_j ⟨x110, A108, c109, rfl, (hF.keep ⟨rfl, rfl, rfl, rfl, rfl, rfl, rfl, trivial⟩), (hS.keep (List.Sublist.refl _) (.cons _ (List.Sublist.refl _)) trivial)⟩
                      ·
                        replace h := ifF he55 h
                        refine wp_exit ?_
                        refine then_x ?_
                        refine then_x ?_
                        refine blk_hit ?_
                        obtain rfl := Option.some.inj h
                        exact then_j ⟨x45, A46, c47, rfl, (hF.keep ⟨rfl, rfl, rfl, rfl, trivial⟩), (hS.keep (List.Sublist.refl _) (.cons_cons _ (List.nil_sublist _)) trivial)⟩
        ·
          refine wp_if hF rfl (fun he112 => ?_) (fun he112 => ?_)
          ·
            replace h := ifT he112 h
            refine wp_reg ?_
            refine sq_val (v_assign hF rfl) hF (by decide) (fun a hF => ?_)
            refine sq_nil ?_
            obtain rfl := Option.some.inj h
            exact then_j ⟨false, rfl, (hF.keep ⟨rfl, rfl, rfl, rfl, trivial⟩), hS⟩
          ·
            replace h := ifF he112 h
            refine wp_skip ?_
            obtain rfl := Option.some.inj h
            exact then_j ⟨x13, rfl, (hF.keep ⟨rfl, rfl, rfl, rfl, trivial⟩), hS⟩
      ·
        replace h := ifF he22 h
        refine wp_exit ?_
        refine then_x ?_
        refine then_x ?_
        refine blk_hit ?_
        obtain rfl := Option.some.inj h
        exact then_j ⟨x10, x13, A11, c12, rfl, (hF.keep ⟨rfl, rfl, trivial⟩), (hS.keep (List.nil_sublist _) (List.Sublist.refl _) trivial)⟩

theorem ok_ref01_Whole (k : Nat) {M : Nat → Prop} {w0 : World} {u0 : Arr 12} {o : ByteArray} (hS : St M w0 [] [] [] w0) (h : ref01_Whole k u0 = some o) :
    Calls Try.prog 60 #[.agg (A12u64.enc u0).toArray] w0 fun e W' => ∃ v, e = .returned v ∧ (v = .string (o) ∧ St M w0 [] [] [] W') := by
  unfold ref01_Whole at h
  refine calls_start (args := [.agg (A12u64.enc u0).toArray]) Try.func60 rfl rfl (Nat.le_of_ble_eq_true rfl) (fun a hF => ?_)
  refine wp_seq ?_
  refine wp_reg ?_
  refine sq_box hF hS rfl rfl (by decide) (fun b1 a W hF hS => ?_)
  refine sq_val (v_assign hF rfl) hF (by decide) (fun a hF => ?_)
  refine sq_nil ?_
  refine then_n ?_
  refine wp_seq ?_
  refine wp_reg ?_
  refine sq_val (v_assign hF rfl) hF (by decide) (fun a hF => ?_)
  refine sq_nil ?_
  refine then_n ?_
  refine wp_seq ?_
  refine wp_seq ?_
  refine wp_reg ?_
  refine sq_val (v_assign hF rfl) hF (by decide) (fun a hF => ?_)
  refine sq_nil ?_
  refine then_n ?_
  obtain ⟨o13, h, hk14⟩ := bindS h
  refine wp_join (fun a W => ∃ (x10 : List Int) (A11 : Option Addr) (c12 : Nat), x10 = o13 ∧ FH 35 [(3, .slice A11 ((x10).length) c12)] a ∧ St M w0 [] [⟨(kInt .u8), 5, A11, c12, x10⟩] [] W) (fun a W hJ => ?_) ?_
  ·
    obtain ⟨x10, A11, c12, rfl, hF, hS⟩ := hJ
    have h := hk14
    refine then_n ?_
    refine wp_seq ?_
    refine wp_reg ?_
    refine sq_val (v_move hF rfl) hF (by decide) (fun a hF => ?_)
    refine sq_val (v_toStr hF rfl (hS.rw_ (i := 0) rfl).src pu82 pu5 pu9) hF (by decide) (fun a hF => ?_)
    refine sq_val (v_assign hF rfl) hF (by decide) (fun a hF => ?_)
    refine sq_nil ?_
    refine then_n ?_
    refine wp_ret ?_
    obtain rfl := Option.some.inj h
    exact ret1 hF rfl (rv_tmp hF rfl) ⟨_, rfl, rfl, (hS.keep (List.Sublist.refl _) (List.nil_sublist _) trivial)⟩
  ·
    have hS := hS.addNil (kInt .u8) 5
    refine wp_block ?_
    refine wp_loop_fuel (I := fun m a W => ∃ (x6 : List Int) (x9 : Int) (A7 : Option Addr) (c8 : Nat), FH 35 [(1, .pointer (some (⟨b1, 0, none⟩))), (3, .slice A7 ((x6).length) c8), (4, .int .i64 (x9))] a ∧ St M w0 [⟨b1, A12u64.enc u0, 24⟩] [⟨(kInt .u8), 5, A7, c8, x6⟩] [] W ∧ (ref01_Whole.l0 k u0 m x6 x9) = some o13) ?_ (k := k) ⟨([]), 0, none, 0, (hF.keep ⟨rfl, rfl, rfl, trivial⟩), hS, h⟩
    rintro m15 a W ⟨x6, x9, A7, c8, hF, hS, h⟩
    cases m15 with
    | zero => cases h
    | succ m15 =>
      rw [ref01_Whole.l0] at h
      refine wp_seq ?_
      refine wp_seq ?_
      refine wp_reg ?_
      refine sq_val (v_move hF rfl) hF (by decide) (fun a hF => ?_)
      refine sq_val (v_lss hF rfl rfl) hF (by decide) (fun a hF => ?_)
      refine sq_nil ?_
      refine then_n ?_
      refine wp_if hF rfl (fun he16 => ?_) (fun he16 => ?_)
      ·
        replace h := ifT he16 h
        refine wp_skip ?_
        refine then_n ?_
        refine wp_seq ?_
        refine wp_block ?_
        refine wp_seq ?_
        refine wp_drawn (QC M w0 [⟨b1, A12u64.enc u0, 24⟩] [⟨(kInt .u8), 5, A7, c8, x6⟩] []) (fun _ => false) rfl hS (fun W hB0 hR0 => ?_)
        have hS := hR0
        have hQC : (QC M w0 [⟨b1, A12u64.enc u0, 24⟩] [⟨(kInt .u8), 5, A7, c8, x6⟩] []) W W := ⟨Bl.refl _ _, hS⟩
        refine e_val (listed' := #[true, false, false, false, false, false, false]) 0 rfl (by kernel_rfl) (by kernel_rfl) (fun _ _ _ h => h) (fun W => (v_move hF rfl)) hF (by decide) (fun a hF => ?_)
        obtain ⟨hb17, h⟩ := ifS h
        refine e_val (listed' := #[true, true, false, false, false, false, false]) 1 rfl (by kernel_rfl) (by kernel_rfl) (fun _ _ _ h => h) (fun W => (v_indexAddr hF rfl rfl par24 hb17.1 hb17.2)) hF (by decide) (fun a hF => ?_)
        refine e_valS (listed' := #[true, true, true, false, false, false, false]) 2 rfl (by kernel_rfl) (by kernel_rfl) (fun _ _ _ h => h) (fun W hC => (v_load1 hF rfl pa22 (cells_sub (vs := [.int .u64 ((u0.at x9))]) (hC.2.bc (i := 0) rfl) rfl (A12u64.get u0 x9 hb17.1 hb17.2)))) hQC (by kernel_rfl) hF (by decide) (fun a hF => ?_)
        refine e_val (listed' := #[true, true, true, true, false, false, false]) 3 rfl (by kernel_rfl) (by kernel_rfl) (fun _ _ _ h => h) (fun W => (v_move hF rfl)) hF (by decide) (fun a hF => ?_)
        refine e_one (listed' := #[true, true, true, true, true, false, false]) 4 rfl (by kernel_rfl) (by kernel_rfl) ?_
        obtain ⟨x18, hx19, h⟩ := bindS h
        refine sq_call hF pc110 rfl (by decide) (ok_ref01_Size (hS.enter trivial) hx19) (fun v W hR a hF => ?_)
        obtain ⟨rfl, hT20⟩ := hR
        have hS := hS.grow hT20.below
        refine sq_nil (then_j ⟨?_, ?_⟩)
        · exact fun hQ0 _ => hQ0.next hT20.below
        ·
          have hQC := hQC.next hT20.below
          refine e_one (listed' := #[true, true, true, true, true, true, false]) 5 rfl (by kernel_rfl) (by kernel_rfl) ?_
          obtain ⟨x21, hx22, h⟩ := bindS h
          refine sq_call hF pc109 rfl (by decide) (ok_ref01_Bits k (hS.enter trivial) hx22) (fun v W hR a hF => ?_)
          obtain ⟨A23, c24, rfl, hT25⟩ := hR
          have hS := hS.join hT25
          refine sq_nil (then_j ⟨?_, ?_⟩)
          · exact fun hQ0 _ => hQ0.next hT25.below
          ·
            have hQC := hQC.next hT25.below
            refine e_val (listed' := #[true, true, true, true, true, true, true]) 6 rfl (by kernel_rfl) (by kernel_rfl) (fun _ _ _ h => h) (fun W => (v_assign hF rfl)) hF (by decide) (fun a hF => ?_)
            refine e_done (by kernel_rfl) ?_ _
            refine then_n ?_
            refine wp_seq ?_
            refine wp_reg ?_
            refine sq_val (v_assign hF rfl) hF (by decide) (fun a hF => ?_)
            refine sq_nil ?_
            refine then_n ?_
            obtain ⟨o37, h, hk38⟩ := bindS h
            refine wp_join (fun a W => ∃ (x34 : List Int) (A35 : Option Addr) (c36 : Nat), x34 = o37 ∧ FH 35 [(1, .pointer (some (⟨b1, 0, none⟩))), (3, .slice A35 ((x34).length) c36), (4, .int .i64 (x9))] a ∧ St M w0 [⟨b1, A12u64.enc u0, 24⟩] [⟨(kInt .u8), 5, A35, c36, x34⟩] [] W) (fun a W hJ => ?_) ?_
            ·
              obtain ⟨x34, A35, c36, rfl, hF, hS⟩ := hJ
              have h := hk38
              refine blk_n ?_
              refine then_n ?_
              refine wp_reg ?_
              refine sq_val (v_move hF rfl) hF (by decide) (fun a hF => ?_)
              refine sq_val (v_add hF rfl rfl) hF (by decide) (fun a hF => ?_)
              refine sq_val (v_assign hF rfl) hF (by decide) (fun a hF => ?_)
              refine sq_nil ?_
              exact then_j ⟨m15, Nat.lt_succ_self _, x34, (IntKind.i64.wrap (x9 + 1)), A35, c36, (hF.keep ⟨rfl, rfl, rfl, trivial⟩), hS, h⟩
            ·
              have hS := hS.perm (List.Perm.refl _) (.trans (.swap _ _ _) (List.Perm.refl _))
              refine wp_block ?_
              refine wp_loop_fuel (I := fun m a W => ∃ (x30 : List Int) (x33 : Int) (A31 : Option Addr) (c32 : Nat), FH 35 [(1, .pointer (some (⟨b1, 0, none⟩))), (3, .slice A31 ((x30).length) c32), (4, .int .i64 (x9)), (5, .slice A23 ((x21).length) c24), (6, .int .i64 (x33))] a ∧ St M w0 [⟨b1, A12u64.enc u0, 24⟩] [⟨(kInt .u8), 5, A31, c32, x30⟩, ⟨kBool, 4, A23, c24, x21⟩] [] W ∧ (ref01_Whole.l1 k x21 m x30 x33) = some o37) ?_ (k := k) ⟨x6, 0, A7, c8, (hF.keep ⟨rfl, rfl, rfl, rfl, rfl, trivial⟩), hS, h⟩
              rintro m39 a W ⟨x30, x33, A31, c32, hF, hS, h⟩
              cases m39 with
              | zero => cases h
              | succ m39 =>
                rw [ref01_Whole.l1] at h
                refine wp_seq ?_
                refine wp_seq ?_
                refine wp_reg ?_
                refine sq_val (v_move hF rfl) hF (by decide) (fun a hF => ?_)
                refine sq_val (v_move hF rfl) hF (by decide) (fun a hF => ?_)
                refine sq_val (v_len hF rfl pu116) hF (by decide) (fun a hF => ?_)
                refine sq_val (v_lss hF rfl rfl) hF (by decide) (fun a hF => ?_)
                refine sq_nil ?_
                refine then_n ?_
                refine wp_if hF rfl (fun he40 => ?_) (fun he40 => ?_)
                ·
                  replace h := ifT he40 h
                  refine wp_skip ?_
                  refine then_n ?_
                  refine wp_seq ?_
                  obtain ⟨o44, h, hk45⟩ := bindS h
                  refine wp_join (fun a W => ∃ (x41 : List Int) (A42 : Option Addr) (c43 : Nat), x41 = o44 ∧ FH 35 [(1, .pointer (some (⟨b1, 0, none⟩))), (3, .slice A42 ((x41).length) c43), (4, .int .i64 (x9)), (5, .slice A23 ((x21).length) c24), (6, .int .i64 (x33))] a ∧ St M w0 [⟨b1, A12u64.enc u0, 24⟩] [⟨(kInt .u8), 5, A42, c43, x41⟩, ⟨kBool, 4, A23, c24, x21⟩] [] W) (fun a W hJ => ?_) ?_
                  ·
                    obtain ⟨x41, A42, c43, rfl, hF, hS⟩ := hJ
                    have h := hk45
                    refine then_n ?_
                    refine wp_reg ?_
                    refine sq_val (v_move hF rfl) hF (by decide) (fun a hF => ?_)
                    refine sq_val (v_add hF rfl rfl) hF (by decide) (fun a hF => ?_)
                    refine sq_val (v_assign hF rfl) hF (by decide) (fun a hF => ?_)
                    refine sq_nil ?_
                    exact then_j ⟨m39, Nat.lt_succ_self _, x41, (IntKind.i64.wrap (x33 + 1)), A42, c43, (hF.keep ⟨rfl, rfl, rfl, rfl, rfl, trivial⟩), hS, h⟩
                  ·
                    refine wp_block ?_
                    refine wp_seq ?_
                    refine wp_reg ?_
                    refine sq_val (v_move hF rfl) hF (by decide) (fun a hF => ?_)
                    refine sq_val (v_move hF rfl) hF (by decide) (fun a hF => ?_)
                    obtain ⟨x46, hx47, h⟩ := bindS h
                    obtain ⟨p48, cs49, hA50, hc52, hr53⟩ := Row.ok.at (hS.rw_ (i := 1) rfl) hx47
                    obtain rfl : cs49 = [.bool (x46)] := hr53
                    refine sq_val (v_idx hF rfl hA50 rfl psl116 hx47) hF (by decide) (fun a hF => ?_)
                    refine sq_val (v_load1 hF rfl pa4 hc52) hF (by decide) (fun a hF => ?_)
                    refine sq_nil ?_
                    refine then_n ?_
                    obtain ⟨o57, h, hk58⟩ := bindS h
                    refine wp_join (fun a W => ∃ (x54 : List Int) (A55 : Option Addr) (c56 : Nat), x54 = o57 ∧ FH 35 [(1, .pointer (some (⟨b1, 0, none⟩))), (3, .slice A55 ((x54).length) c56), (4, .int .i64 (x9)), (5, .slice A23 ((x21).length) c24), (6, .int .i64 (x33))] a ∧ St M w0 [⟨b1, A12u64.enc u0, 24⟩] [⟨(kInt .u8), 5, A55, c56, x54⟩, ⟨kBool, 4, A23, c24, x21⟩] [] W) (fun a W hJ => ?_) ?_
                    ·
                      obtain ⟨x54, A55, c56, rfl, hF, hS⟩ := hJ
                      have h := hk58
                      refine blk_n ?_
                      obtain rfl := Option.some.inj h
                      exact then_j ⟨x54, A55, c56, rfl, (hF.keep ⟨rfl, rfl, rfl, rfl, rfl, trivial⟩), hS⟩
                    ·
                      refine wp_if hF rfl (fun he59 => ?_) (fun he59 => ?_)
                      ·
                        replace h := ifT he59 h
                        refine wp_reg ?_
                        refine sq_val (v_move hF rfl) hF (by decide) (fun a hF => ?_)
                        refine sq_buildSlice (κ := (kInt .u8)) (xs := [.const (.int .u8 49)]) (ys := [49]) hF hS rfl rfl rfl (Els.cons rfl (Els.nil _ _ _)) rfl psl82 pz5 rfl (by decide) (by decide) (by decide) (fun A60 c61 a W hF hS => ?_)
                        obtain ⟨x64, hx65, h⟩ := bindS h
                        refine sq_append (ys := ([49])) hF hS (i := 1) rfl rfl rfl (hS.rw_ (i := 0) rfl).src psl82 pb5 pz5 rfl (by decide) (by decide) hx65 (by decide) (fun A62 c63 a W hF hS => ?_)
                        refine sq_val (v_assign hF rfl) hF (by decide) (fun a hF => ?_)
                        refine sq_nil ?_
                        obtain rfl := Option.some.inj h
                        exact then_j ⟨x64, A62, c63, rfl, (hF.keep ⟨rfl, rfl, rfl, rfl, rfl, trivial⟩), (hS.keep (List.Sublist.refl _) (.cons _ (List.Sublist.refl _)) trivial)⟩
                      ·
                        replace h := ifF he59 h
                        refine wp_reg ?_
                        refine sq_val (v_move hF rfl) hF (by decide) (fun a hF => ?_)
                        refine sq_buildSlice (κ := (kInt .u8)) (xs := [.const (.int .u8 48)]) (ys := [48]) hF hS rfl rfl rfl (Els.cons rfl (Els.nil _ _ _)) rfl psl82 pz5 rfl (by decide) (by decide) (by decide) (fun A66 c67 a W hF hS => ?_)
                        obtain ⟨x70, hx71, h⟩ := bindS h
                        refine sq_append (ys := ([48])) hF hS (i := 1) rfl rfl rfl (hS.rw_ (i := 0) rfl).src psl82 pb5 pz5 rfl (by decide) (by decide) hx71 (by decide) (fun A68 c69 a W hF hS => ?_)
                        refine sq_val (v_assign hF rfl) hF (by decide) (fun a hF => ?_)
                        refine sq_nil ?_
                        obtain rfl := Option.some.inj h
                        exact then_j ⟨x70, A68, c69, rfl, (hF.keep ⟨rfl, rfl, rfl, rfl, rfl, trivial⟩), (hS.keep (List.Sublist.refl _) (.cons _ (List.Sublist.refl _)) trivial)⟩
                ·
                  replace h := ifF he40 h
                  refine wp_exit ?_
                  refine then_x ?_
                  refine then_x ?_
                  refine blk_hit ?_
                  obtain rfl := Option.some.inj h
                  exact then_j ⟨x30, A31, c32, rfl, (hF.keep ⟨rfl, rfl, rfl, trivial⟩), (hS.keep (List.Sublist.refl _) (.cons_cons _ (List.nil_sublist _)) trivial)⟩
      ·
        replace h := ifF he16 h
        refine wp_exit ?_
        refine then_x ?_
        refine then_x ?_
        refine blk_hit ?_
        obtain rfl := Option.some.inj h
        exact then_j ⟨x6, A7, c8, rfl, (hF.keep ⟨rfl, trivial⟩), (hS.keep (List.nil_sublist _) (List.Sublist.refl _) trivial)⟩

theorem ok_ref01_Has (k : Nat) {M : Nat → Prop} {w0 : World} {u0 : TCube} {u1 : Arr 12} {o : Bool} (hS : St M w0 [] [] [] w0) (h : ref01_Has k u0 u1 = some o) :
    Calls Try.prog 16 #[.agg (TCube.enc u0).toArray, .agg (A12u64.enc u1).toArray] w0 fun e W' => ∃ v, e = .returned v ∧ (v = .bool (o) ∧ St M w0 [] [] [] W') := by
  unfold ref01_Has at h
  refine calls_start (args := [.agg (TCube.enc u0).toArray, .agg (A12u64.enc u1).toArray]) Try.func16 rfl rfl (Nat.le_of_ble_eq_true rfl) (fun a hF => ?_)
  refine wp_seq ?_
  refine wp_reg ?_
  refine sq_box hF hS rfl rfl (by decide) (fun b1 a W hF hS => ?_)
  refine sq_box hF hS rfl rfl (by decide) (fun b2 a W hF hS => ?_)
  refine sq_val (v_assign hF rfl) hF (by decide) (fun a hF => ?_)
  refine sq_nil ?_
  refine then_n ?_
  refine wp_seq ?_
  refine wp_reg ?_
  refine sq_val (v_load (cs := TCube.enc u0) hF rfl pa26 ps26 (hS.bc (i := 1) rfl)) hF (by decide) (fun a hF => ?_)
  obtain ⟨x3, hx4, h⟩ := bindS h
  refine sq_call hF pc55 rfl (by decide) (ok_ref01_Text k (hS.enter trivial) hx4) (fun v W hR a hF => ?_)
  obtain ⟨rfl, hT5⟩ := hR
  have hS := hS.grow hT5.below
  refine sq_val (v_move hF rfl) hF (by decide) (fun a hF => ?_)
  refine sq_val (v_extract hF rfl rfl) hF (by decide) (fun a hF => ?_)
  refine sq_val (v_extract hF rfl rfl) hF (by decide) (fun a hF => ?_)
  refine sq_val (v_assign hF rfl) hF (by decide) (fun a hF => ?_)
  refine sq_val (v_assign hF rfl) hF (by decide) (fun a hF => ?_)
  refine sq_nil ?_
  refine then_n ?_
  refine wp_seq ?_
  refine wp_reg ?_
  refine sq_val (v_load (cs := A12u64.enc u1) hF rfl pa24 ps24 (hS.bc (i := 0) rfl)) hF (by decide) (fun a hF => ?_)
  obtain ⟨x6, hx7, h⟩ := bindS h
  refine sq_call hF pc60 rfl (by decide) (ok_ref01_Whole k (hS.enter trivial) hx7) (fun v W hR a hF => ?_)
  obtain ⟨rfl, hT8⟩ := hR
  have hS := hS.grow hT8.below
  refine sq_val (v_assign hF rfl) hF (by decide) (fun a hF => ?_)
  refine sq_nil ?_
  refine then_n ?_
  refine wp_seq ?_
  refine wp_seq ?_
  refine wp_reg ?_
  refine sq_val (v_assign hF rfl) hF (by decide) (fun a hF => ?_)
  refine sq_nil ?_
  refine then_n ?_
  obtain ⟨o14, h, hk15⟩ := bindS h
  refine wp_join (fun a W => ∃ (x13 : Bool), x13 = o14 ∧ FH 43 [(3, .pointer (some (⟨b2, 0, none⟩))), (6, .bool (x13))] a ∧ St M w0 [⟨b2, A12u64.enc u1, 24⟩] [] [] W) (fun a W hJ => ?_) ?_
  ·
    obtain ⟨x13, rfl, hF, hS⟩ := hJ
    have h := hk15
    refine then_n ?_
    refine wp_seq ?_
    refine wp_reg ?_
    refine sq_val (v_move hF rfl) hF (by decide) (fun a hF => ?_)
    refine sq_val (v_move hF rfl) hF (by decide) (fun a hF => ?_)
    obtain ⟨x17, h, hk19⟩ := bindS h
    refine sq_cut 3 (fun a W => FH 43 [(42, .bool x17)] a ∧ St M w0 [⟨b2, A12u64.enc u1, 24⟩] [] [] W) (fun a W hJ => ?_) ?_
    ·
      have h := hk19
      obtain ⟨hF, hS⟩ := hJ
      refine sq_val (v_assign hF rfl) hF (by decide) (fun a hF => ?_)
      refine sq_nil ?_
      refine then_n ?_
      refine wp_ret ?_
      obtain rfl := Option.some.inj h
      exact ret1 hF rfl (rv_tmp hF rfl) ⟨_, rfl, rfl, (hS.keep (List.nil_sublist _) (List.Sublist.refl _) trivial)⟩
    ·
      by_cases he16 : x13 = true
      ·
        replace h := ifT he16 h
        refine sq_yes hF rfl rfl he16 ?_
        refine sq_val (v_load (cs := A12u64.enc u1) hF rfl pa24 ps24 (hS.bc (i := 0) rfl)) hF (by decide) (fun a hF => ?_)
        refine sq_yes hF rfl rfl he16 ?_
        obtain ⟨x20, hx21, h⟩ := bindS h
        refine sq_call hF pc61 rfl (by decide) (ok_ref01_Head k (hS.enter trivial) hx21) (fun v W hR a hF => ?_)
        obtain ⟨rfl, hT22⟩ := hR
        have hS := hS.grow hT22.below
        refine sq_val (v_pick_t hF rfl he16 rfl) hF (by decide) (fun a hF => ?_)
        obtain rfl := Option.some.inj h
        exact sq_nil (then_j ⟨(hF.keep ⟨rfl, trivial⟩), hS⟩)
      ·
        have he16 : x13 = false := nB he16
        replace h := ifF he16 h
        refine sq_no hF rfl rfl he16 (by rintro x ⟨⟩; decide) (fun a hF => ?_)
        refine sq_no hF rfl rfl he16 (by rintro x ⟨⟩; decide) (fun a hF => ?_)
        refine sq_val (v_pick_f hF rfl he16 rfl) hF (by decide) (fun a hF => ?_)
        obtain rfl := Option.some.inj h
        exact sq_nil (then_j ⟨(hF.keep ⟨rfl, trivial⟩), hS⟩)
  ·
    refine wp_block ?_
    refine wp_loop_fuel (I := fun m a W => ∃ (x11 : Bool) (x12 : Int), FH 43 [(3, .pointer (some (⟨b2, 0, none⟩))), (5, .string (x3.1)), (6, .bool (x11)), (7, .string (x6)), (8, .int .i64 (x12))] a ∧ St M w0 [⟨b2, A12u64.enc u1, 24⟩] [] [] W ∧ (ref01_Has.l0 k x3 x6 m x11 x12) = some o14) ?_ (k := k) ⟨x3.2, 0, (hF.keep ⟨rfl, rfl, rfl, rfl, rfl, trivial⟩), (hS.keep (.cons_cons _ (List.nil_sublist _)) (List.Sublist.refl _) trivial), h⟩
    rintro m23 a W ⟨x11, x12, hF, hS, h⟩
    cases m23 with
    | zero => cases h
    | succ m23 =>
      rw [ref01_Has.l0] at h
      refine wp_seq ?_
      refine wp_seq ?_
      refine wp_reg ?_
      refine sq_val (v_move hF rfl) hF (by decide) (fun a hF => ?_)
      refine sq_val (v_move hF rfl) hF (by decide) (fun a hF => ?_)
      refine sq_val (v_lenS hF rfl pu9) hF (by decide) (fun a hF => ?_)
      refine sq_val (v_lss hF rfl rfl) hF (by decide) (fun a hF => ?_)
      refine sq_nil ?_
      refine then_n ?_
      refine wp_if hF rfl (fun he24 => ?_) (fun he24 => ?_)
      ·
        replace h := ifT he24 h
        refine wp_skip ?_
        refine then_n ?_
        refine wp_seq ?_
        refine wp_block ?_
        refine wp_quiet rfl (by kernel_rfl) hS ?_
        refine qt_val (fun W hC => (v_move hF rfl)) hF (by decide) (fun a hF => ?_)
        refine qt_val (fun W hC => (v_move hF rfl)) hF (by decide) (fun a hF => ?_)
        obtain ⟨x26, h, hk28⟩ := bindS h
        refine qt_cut 14 (fun a => FH 43 [(3, .pointer (some (⟨b2, 0, none⟩))), (5, .string (x3.1)), (7, .string (x6)), (8, .int .i64 (x12)), (37, .bool x26)] a) (fun a hF => ?_) ?_
        ·
          have h := hk28
          refine qt_val (fun W hC => (v_assign hF rfl)) hF (by decide) (fun a hF => ?_)
          refine qt_nil ?_
          intro W hC
          have hS := hC.2
          refine blk_n ?_
          refine then_n ?_
          refine wp_reg ?_
          refine sq_val (v_move hF rfl) hF (by decide) (fun a hF => ?_)
          refine sq_val (v_add hF rfl rfl) hF (by decide) (fun a hF => ?_)
          refine sq_val (v_assign hF rfl) hF (by decide) (fun a hF => ?_)
          refine sq_nil ?_
          exact then_j ⟨m23, Nat.lt_succ_self _, x26, (IntKind.i64.wrap (x12 + 1)), (hF.keep ⟨rfl, rfl, rfl, rfl, rfl, trivial⟩), hS, h⟩
        ·
          by_cases he25 : x11 = true
          ·
            replace h := ifT he25 h
            refine qt_yes hF rfl rfl he25 ?_
            refine qt_val (fun W hC => (v_move hF rfl)) hF (by decide) (fun a hF => ?_)
            refine qt_yes hF rfl rfl he25 ?_
            refine qt_val (fun W hC => (v_move hF rfl)) hF (by decide) (fun a hF => ?_)
            refine qt_yes hF rfl rfl he25 ?_
            obtain ⟨hb29, h⟩ := ifS h
            refine qt_val (fun W hC => (v_indexStr hF rfl rfl pu9 hb29.1 hb29.2)) hF (by decide) (fun a hF => ?_)
            refine qt_yes hF rfl rfl he25 ?_
            refine qt_val (fun W hC => (v_eql hF rfl rfl)) hF (by decide) (fun a hF => ?_)
            refine qt_yes hF rfl rfl he25 ?_
            refine qt_val (fun W hC => (v_move hF rfl)) hF (by decide) (fun a hF => ?_)
            obtain ⟨x31, h, hk33⟩ := bindS h
            refine qt_cut 8 (fun a => FH 43 [(3, .pointer (some (⟨b2, 0, none⟩))), (5, .string (x3.1)), (7, .string (x6)), (8, .int .i64 (x12)), (23, .bool (x11)), (24, .string (x3.1)), (25, .int .i64 (x12)), (26, .int .u8 ((byteAt x3.1 x12))), (27, .bool (((byteAt x3.1 x12) == 120))), (28, .bool (((byteAt x3.1 x12) == 120))), (36, .bool x31)] a) (fun a hF => ?_) ?_
            ·
              have h := hk33
              refine qt_val (fun W hC => (v_pick_t hF rfl he25 rfl)) hF (by decide) (fun a hF => ?_)
              obtain rfl := Option.some.inj h
              exact qt_nil (hF.keep ⟨rfl, rfl, rfl, rfl, rfl, trivial⟩)
            ·
              by_cases he30 : ((byteAt x3.1 x12) == 120) = true
              ·
                replace h := ifT he30 h
                refine qt_no hF rfl rfl he30 (by decide) (fun a hF => ?_)
                refine qt_no hF rfl rfl he30 (by decide) (fun a hF => ?_)
                refine qt_no hF rfl rfl he30 (by decide) (fun a hF => ?_)
                refine qt_no hF rfl rfl he30 (by decide) (fun a hF => ?_)
                refine qt_no hF rfl rfl he30 (by decide) (fun a hF => ?_)
                refine qt_no hF rfl rfl he30 (by decide) (fun a hF => ?_)
                refine qt_no hF rfl rfl he30 (by decide) (fun a hF => ?_)
                refine qt_yes hF rfl rfl he25 ?_
                refine qt_val (fun W hC => (v_pick_t hF rfl he30 rfl)) hF (by decide) (fun a hF => ?_)
                obtain rfl := Option.some.inj h
                exact qt_nil (hF.keep ⟨rfl, rfl, rfl, rfl, rfl, rfl, rfl, rfl, rfl, rfl, rfl, trivial⟩)
              ·
                have he30 : ((byteAt x3.1 x12) == 120) = false := nB he30
                replace h := ifF he30 h
                refine qt_yes hF rfl rfl he30 ?_
                refine qt_val (fun W hC => (v_move hF rfl)) hF (by decide) (fun a hF => ?_)
                refine qt_yes hF rfl rfl he30 ?_
                refine qt_val (fun W hC => (v_move hF rfl)) hF (by decide) (fun a hF => ?_)
                refine qt_yes hF rfl rfl he30 ?_
                refine qt_val (fun W hC => (v_indexStr hF rfl rfl pu9 hb29.1 hb29.2)) hF (by decide) (fun a hF => ?_)
                refine qt_yes hF rfl rfl he30 ?_
                refine qt_val (fun W hC => (v_move hF rfl)) hF (by decide) (fun a hF => ?_)
                refine qt_yes hF rfl rfl he30 ?_
                refine qt_val (fun W hC => (v_move hF rfl)) hF (by decide) (fun a hF => ?_)
                refine qt_yes hF rfl rfl he30 ?_
                obtain ⟨hb34, h⟩ := ifS h
                refine qt_val (fun W hC => (v_indexStr hF rfl rfl pu9 hb34.1 hb34.2)) hF (by decide) (fun a hF => ?_)
                refine qt_yes hF rfl rfl he30 ?_
                refine qt_val (fun W hC => (v_eql hF rfl rfl)) hF (by decide) (fun a hF => ?_)
                refine qt_yes hF rfl rfl he25 ?_
                refine qt_val (fun W hC => (v_pick_f hF rfl he30 rfl)) hF (by decide) (fun a hF => ?_)
                obtain rfl := Option.some.inj h
                exact qt_nil (hF.keep ⟨rfl, rfl, rfl, rfl, rfl, rfl, rfl, rfl, rfl, rfl, rfl, trivial⟩)
          ·
            have he25 : x11 = false := nB he25
            replace h := ifF he25 h
            refine qt_no hF rfl rfl he25 (by decide) (fun a hF => ?_)
            refine qt_no hF rfl rfl he25 (by decide) (fun a hF => ?_)
            refine qt_no hF rfl rfl he25 (by decide) (fun a hF => ?_)
            refine qt_no hF rfl rfl he25 (by decide) (fun a hF => ?_)
            refine qt_no hF rfl rfl he25 (by decide) (fun a hF => ?_)
            refine qt_no2 hF rfl rfl (by decide) (fun a hF => ?_)
            refine qt_no2 hF rfl rfl (by decide) (fun a hF => ?_)
            refine qt_no2 hF rfl rfl (by decide) (fun a hF => ?_)
            refine qt_no2 hF rfl rfl (by decide) (fun a hF => ?_)
            refine qt_no2 hF rfl rfl (by decide) (fun a hF => ?_)
            refine qt_no2 hF rfl rfl (by decide) (fun a hF => ?_)
            refine qt_no2 hF rfl rfl (by decide) (fun a hF => ?_)
            refine qt_no hF rfl rfl he25 (by decide) (fun a hF => ?_)
            refine qt_val (fun W hC => (v_pick_f hF rfl he25 rfl)) hF (by decide) (fun a hF => ?_)
            obtain rfl := Option.some.inj h
            exact qt_nil (hF.keep ⟨rfl, rfl, rfl, rfl, rfl, trivial⟩)
      ·
        replace h := ifF he24 h
        refine wp_exit ?_
        refine then_x ?_
        refine then_x ?_
        refine blk_hit ?_
        obtain rfl := Option.some.inj h
        exact then_j ⟨x11, rfl, (hF.keep ⟨rfl, rfl, trivial⟩), hS⟩

theorem ok_ref01_Cube (k : Nat) {M : Nat → Prop} {w0 : World} {u0 : TCube} {o : Bool} (hS : St M w0 [] [] [] w0) (h : ref01_Cube k u0 = some o) :
    Calls Try.prog 17 #[.agg (TCube.enc u0).toArray] w0 fun e W' => ∃ v, e = .returned v ∧ (v = .bool (o) ∧ St M w0 [] [] [] W') := by
  unfold ref01_Cube at h
  refine calls_start (args := [.agg (TCube.enc u0).toArray]) Try.func17 rfl rfl (Nat.le_of_ble_eq_true rfl) (fun a hF => ?_)
  refine wp_seq ?_
  refine wp_reg ?_
  refine sq_box hF hS rfl rfl (by decide) (fun b1 a W hF hS => ?_)
  refine sq_val (v_assign hF rfl) hF (by decide) (fun a hF => ?_)
  refine sq_nil ?_
  refine then_n ?_
  refine wp_seq ?_
  refine wp_reg ?_
  refine sq_val (v_load (cs := TCube.enc u0) hF rfl pa26 ps26 (hS.bc (i := 0) rfl)) hF (by decide) (fun a hF => ?_)
  obtain ⟨x2, hx3, h⟩ := bindS h
  refine sq_call hF pc55 rfl (by decide) (ok_ref01_Text k (hS.enter trivial) hx3) (fun v W hR a hF => ?_)
  obtain ⟨rfl, hT4⟩ := hR
  have hS := hS.grow hT4.below
  refine sq_val (v_move hF rfl) hF (by decide) (fun a hF => ?_)
  refine sq_val (v_extract hF rfl rfl) hF (by decide) (fun a hF => ?_)
  refine sq_val (v_extract hF rfl rfl) hF (by decide) (fun a hF => ?_)
  refine sq_val (v_assign hF rfl) hF (by decide) (fun a hF => ?_)
  refine sq_val (v_assign hF rfl) hF (by decide) (fun a hF => ?_)
  refine sq_nil ?_
  refine then_n ?_
  refine wp_seq ?_
  refine wp_reg ?_
  refine sq_val (v_move hF rfl) hF (by decide) (fun a hF => ?_)
  refine sq_val (v_assign hF rfl) hF (by decide) (fun a hF => ?_)
  refine sq_nil ?_
  refine then_n ?_
  refine wp_ret ?_
  obtain rfl := Option.some.inj h
  exact ret1 hF rfl (rv_tmp hF rfl) ⟨_, rfl, rfl, (hS.keep (List.nil_sublist _) (List.Sublist.refl _) trivial)⟩

theorem ok_ref01_Space (k : Nat) {M : Nat → Prop} {w0 : World} {u0 : List TCube} {A0_0 : Option Addr} {c0_0 : Nat} {o : Bool} (hS : St M w0 [] [] [fSl k_TCube A0_0 c0_0 u0] w0) (h : ref01_Space k u0 = some o) :
    Calls Try.prog 39 #[.slice A0_0 ((u0).length) c0_0] w0 fun e W' => ∃ v, e = .returned v ∧ (v = .bool (o) ∧ St M w0 [] [] [] W') := by
  unfold ref01_Space at h
  refine calls_start (args := [.slice A0_0 ((u0).length) c0_0]) Try.func39 rfl rfl (Nat.le_of_ble_eq_true rfl) (fun a hF => ?_)
  refine wp_seq ?_
  refine wp_reg ?_
  refine sq_val (v_assign hF rfl) hF (by decide) (fun a hF => ?_)
  refine sq_nil ?_
  refine then_n ?_
  refine wp_seq ?_
  refine wp_seq ?_
  refine wp_reg ?_
  refine sq_val (v_assign hF rfl) hF (by decide) (fun a hF => ?_)
  refine sq_nil ?_
  refine then_n ?_
  obtain ⟨o3, h, hk4⟩ := bindS h
  refine wp_join (fun a W => Lo.brk () = o3 ∧ FH 19 [(0, .slice A0_0 ((u0).length) c0_0)] a ∧ St M w0 [] [] [fSl k_TCube A0_0 c0_0 u0] W) (fun a W hJ => ?_) ?_
  ·
    obtain ⟨rfl, hF, hS⟩ := hJ
    have h := hk4
    dsimp only at h
    refine then_n ?_
    refine wp_seq ?_
    refine wp_reg ?_
    refine sq_val (v_move hF rfl) hF (by decide) (fun a hF => ?_)
    refine sq_val (v_len hF rfl pu29) hF (by decide) (fun a hF => ?_)
    refine sq_val (v_leq hF rfl rfl) hF (by decide) (fun a hF => ?_)
    refine sq_val (v_assign hF rfl) hF (by decide) (fun a hF => ?_)
    refine sq_nil ?_
    refine then_n ?_
    refine wp_ret ?_
    obtain rfl := Option.some.inj h
    exact ret1 hF rfl (rv_tmp hF rfl) ⟨_, rfl, rfl, (hS.keep (List.Sublist.refl _) (List.Sublist.refl _) trivial)⟩
  ·
    refine wp_block ?_
    refine wp_loop_fuel (I := fun m a W => ∃ (x2 : Int), FH 19 [(0, .slice A0_0 ((u0).length) c0_0), (3, .int .i64 (x2))] a ∧ St M w0 [] [] [fSl k_TCube A0_0 c0_0 u0] W ∧ (ref01_Space.l0 k u0 m x2) = some o3) ?_ (k := k) ⟨0, (hF.keep ⟨rfl, rfl, trivial⟩), hS, h⟩
    rintro m5 a W ⟨x2, hF, hS, h⟩
    cases m5 with
    | zero => cases h
    | succ m5 =>
      rw [ref01_Space.l0] at h
      refine wp_seq ?_
      refine wp_seq ?_
      refine wp_reg ?_
      refine sq_val (v_move hF rfl) hF (by decide) (fun a hF => ?_)
      refine sq_val (v_move hF rfl) hF (by decide) (fun a hF => ?_)
      refine sq_val (v_len hF rfl pu29) hF (by decide) (fun a hF => ?_)
      refine sq_val (v_lss hF rfl rfl) hF (by decide) (fun a hF => ?_)
      refine sq_nil ?_
      refine then_n ?_
      refine wp_if hF rfl (fun he6 => ?_) (fun he6 => ?_)
      ·
        replace h := ifT he6 h
        refine wp_skip ?_
        refine then_n ?_
        refine wp_seq ?_
        refine wp_block ?_
        refine wp_seq ?_
        refine wp_reg ?_
        refine sq_val (v_move hF rfl) hF (by decide) (fun a hF => ?_)
        refine sq_val (v_move hF rfl) hF (by decide) (fun a hF => ?_)
        obtain ⟨x7, hx8, h⟩ := bindS h
        obtain ⟨p9, cs10, hA11, hat12⟩ := SlR.at (hS.fc (i := 0) rfl) hx8
        obtain rfl : cs10 = TCube.enc x7 := hat12.2.2.2
        have hS := hS.addFact (f := fAt k_TCube (p9.add (x2.toNat * 24)) (TCube.enc x7) x7) hat12
        refine sq_val (v_idx hF rfl hA11 rfl psl29 hx8) hF (by decide) (fun a hF => ?_)
        refine sq_val (v_load (cs := TCube.enc x7) hF rfl pa26 ps26 (hS.pc (i := 0) rfl)) hF (by decide) (fun a hF => ?_)
        obtain ⟨x13, hx14, h⟩ := bindS h
        refine sq_call hF pc17 rfl (by decide) (ok_ref01_Cube k (hS.enter trivial) hx14) (fun v W hR a hF => ?_)
        obtain ⟨rfl, hT15⟩ := hR
        have hS := hS.grow hT15.below
        refine sq_val (v_not hF rfl) hF (by decide) (fun a hF => ?_)
        refine sq_nil ?_
        refine then_n ?_
        refine wp_if hF rfl (fun he16 => ?_) (fun he16 => ?_)
        ·
          replace h := ifT he16 h
          refine wp_seq ?_
          refine wp_reg ?_
          refine sq_val (v_assign hF rfl) hF (by decide) (fun a hF => ?_)
          refine sq_nil ?_
          refine then_n ?_
          refine wp_ret ?_
          refine blk_r ?_
          refine then_r ?_
          refine then_r ?_
          refine blk_r ?_
          refine then_r ?_
          refine then_r ?_
          obtain rfl := Option.some.inj h
          have h := hk4
          dsimp only at h
          obtain rfl := Option.some.inj h
          exact ret1 hF rfl (rv_tmp hF rfl) ⟨_, rfl, rfl, (hS.keep (List.Sublist.refl _) (List.Sublist.refl _) trivial)⟩
        ·
          replace h := ifF he16 h
          refine wp_skip ?_
          refine blk_n ?_
          refine then_n ?_
          refine wp_reg ?_
          refine sq_val (v_move hF rfl) hF (by decide) (fun a hF => ?_)
          refine sq_val (v_add hF rfl rfl) hF (by decide) (fun a hF => ?_)
          refine sq_val (v_assign hF rfl) hF (by decide) (fun a hF => ?_)
          refine sq_nil ?_
          exact then_j ⟨m5, Nat.lt_succ_self _, (IntKind.i64.wrap (x2 + 1)), (hF.keep ⟨rfl, rfl, trivial⟩), (hS.keep (List.Sublist.refl _) (List.Sublist.refl _) ⟨⟨1, rfl⟩, trivial⟩), h⟩
      ·
        replace h := ifF he6 h
        refine wp_exit ?_
        refine then_x ?_
        refine then_x ?_
        refine blk_hit ?_
        obtain rfl := Option.some.inj h
        exact then_j ⟨rfl, (hF.keep ⟨rfl, trivial⟩), hS⟩
end Go.Proofs.Ytangebngeeamoaa
