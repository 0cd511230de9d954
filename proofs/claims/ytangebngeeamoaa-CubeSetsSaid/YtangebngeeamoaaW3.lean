/- What calls of the Go functions come to. -/
import Derived.Test.YtangebngeeamoaaW2
set_option linter.unusedVariables false
set_option linter.unusedSimpArgs false
set_option maxRecDepth 100000
set_option maxHeartbeats 4000000
namespace Go.Proofs.Ytangebngeeamoaa
open Go.RowKit Go.Pod
theorem ok_ref01_Whole (k : Nat) {M : Nat → Prop} {w0 : World} {u0 : Arr 12} {o : ByteArray} (hS : St M w0 [] [] [] w0) (h : ref01_Whole k u0 = some o) :
    Calls Try.prog 60 #[.agg (A12u64.enc u0).toArray] w0 fun e W' => ∃ v, e = .returned v ∧ (v = .string (o) ∧ St M w0 [] [] [] W') := by
  unfold ref01_Whole at h
  refine calls_start (args := [.agg (A12u64.enc u0).toArray]) Try.func60 rfl rfl (Nat.le_of_ble_eq_true rfl) (fun a hF => ?_)
  refine wp_seq ?_
  refine wp_reg ?_
  refine sq_box hF hS rfl rfl (by decide) (fun b1 a W hF hS => ?_)
  refine sq_val (v_assign hF rfl) hF (by decide) (fun a hF => ?_)
  refine sq_nil ?_
  refine then_n ?_
  refine wp_seq ?_
  refine wp_reg ?_
  refine sq_val (v_assign hF rfl) hF (by decide) (fun a hF => ?_)
  refine sq_nil ?_
  refine then_n ?_
  refine wp_seq ?_
  refine wp_seq ?_
  refine wp_reg ?_
  refine sq_val (v_assign hF rfl) hF (by decide) (fun a hF => ?_)
  refine sq_nil ?_
  refine then_n ?_
  obtain ⟨o13, h, hk14⟩ := bindS h
  refine wp_join (fun a W => ∃ (x10 : List Int) (A11 : Option Addr) (c12 : Nat), x10 = o13 ∧ FH 35 [(3, .slice A11 (x10).length c12)] a ∧ St M w0 [] [⟨(kInt .u8), 5, A11, c12, x10⟩] [] W) (fun a W hJ => ?_) ?_
  ·
    obtain ⟨x10, A11, c12, rfl, hF, hS⟩ := hJ
    have h := hk14
    refine then_n ?_
    refine wp_seq ?_
    refine wp_reg ?_
    refine sq_val (v_move hF rfl) hF (by decide) (fun a hF => ?_)
    refine sq_val (v_toStr hF rfl (hS.rw_ (i := 0) rfl).src pu82 pu5 pu9) hF (by decide) (fun a hF => ?_)
    refine sq_val (v_assign hF rfl) hF (by decide) (fun a hF => ?_)
    refine sq_nil ?_
    refine then_n ?_
    refine wp_ret ?_
    obtain rfl := Option.some.inj h
    exact ret1 hF rfl (rv_tmp hF rfl) ⟨_, rfl, rfl, (hS.keep (List.Sublist.refl _) (List.nil_sublist _) trivial)⟩
  ·
    have hS := hS.addNil (kInt .u8) 5
    refine wp_block ?_
    refine wp_loop_fuel (I := fun m a W => ∃ (x6 : List Int) (x9 : Int) (A7 : Option Addr) (c8 : Nat), FH 35 [(1, .pointer (some (⟨b1, 0, none⟩))), (3, .slice A7 (x6).length c8), (4, .int .i64 (x9))] a ∧ St M w0 [⟨b1, A12u64.enc u0, 24⟩] [⟨(kInt .u8), 5, A7, c8, x6⟩] [] W ∧ (ref01_Whole.l0 k u0 m x6 x9) = some o13) ?_ (k := k) ⟨([]), 0, none, 0, (hF.keep ⟨rfl, rfl, rfl, trivial⟩), hS, h⟩
    rintro m15 a W ⟨x6, x9, A7, c8, hF, hS, h⟩
    cases m15 with
    | zero => cases h
    | succ m15 =>
      rw [ref01_Whole.l0] at h
      refine wp_seq ?_
      refine wp_seq ?_
      refine wp_reg ?_
      refine sq_val (v_move hF rfl) hF (by decide) (fun a hF => ?_)
      refine sq_val (v_lss hF rfl rfl) hF (by decide) (fun a hF => ?_)
      refine sq_nil ?_
      refine then_n ?_
      refine wp_if hF rfl (fun he16 => ?_) (fun he16 => ?_)
      ·
        replace h := ifT he16 h
        refine wp_skip ?_
        refine then_n ?_
        refine wp_seq ?_
        refine wp_block ?_
        refine wp_seq ?_
        refine wp_drawn (QC M w0 [⟨b1, A12u64.enc u0, 24⟩] [⟨(kInt .u8), 5, A7, c8, x6⟩] []) (fun _ => false) rfl hS (fun W hB0 hR0 => ?_)
        have hS := hR0
        have hQC : (QC M w0 [⟨b1, A12u64.enc u0, 24⟩] [⟨(kInt .u8), 5, A7, c8, x6⟩] []) W W := ⟨Below.refl _ _, hS⟩
        refine e_val (listed' := #[true, false, false, false, false, false, false]) 0 rfl (by kernel_rfl) (by kernel_rfl) (fun _ _ _ h => h) (fun W => (v_move hF rfl)) hF (by decide) (fun a hF => ?_)
        obtain ⟨hb17, h⟩ := ifS h
        refine e_val (listed' := #[true, true, false, false, false, false, false]) 1 rfl (by kernel_rfl) (by kernel_rfl) (fun _ _ _ h => h) (fun W => (v_indexAddr hF rfl rfl par24 hb17.1 hb17.2)) hF (by decide) (fun a hF => ?_)
        refine e_valS (listed' := #[true, true, true, false, false, false, false]) 2 rfl (by kernel_rfl) (by kernel_rfl) (fun _ _ _ h => h) (fun W hC => (v_load1 hF rfl pa22 (cells_sub (vs := [.int .u64 ((u0.at x9))]) (hC.2.bc (i := 0) rfl) rfl (A12u64.get u0 x9 hb17.1 hb17.2)))) hQC (by kernel_rfl) hF (by decide) (fun a hF => ?_)
        refine e_val (listed' := #[true, true, true, true, false, false, false]) 3 rfl (by kernel_rfl) (by kernel_rfl) (fun _ _ _ h => h) (fun W => (v_move hF rfl)) hF (by decide) (fun a hF => ?_)
        refine e_one (listed' := #[true, true, true, true, true, false, false]) 4 rfl (by kernel_rfl) (by kernel_rfl) ?_
        obtain ⟨x18, hx19, h⟩ := bindS h
        refine sq_call hF pc110 rfl (by decide) (ok_ref01_Size (hS.enter trivial) hx19) (fun v W hR a hF => ?_)
        obtain ⟨rfl, hT20⟩ := hR
        have hS := hS.grow hT20.below
        refine sq_nil (then_j ⟨?_, ?_⟩)
        · exact fun hQ0 _ => hQ0.next hT20.below
        ·
          have hQC := hQC.next hT20.below
          refine e_one (listed' := #[true, true, true, true, true, true, false]) 5 rfl (by kernel_rfl) (by kernel_rfl) ?_
          obtain ⟨x21, hx22, h⟩ := bindS h
          refine sq_call hF pc109 rfl (by decide) (ok_ref01_Bits k (hS.enter trivial) hx22) (fun v W hR a hF => ?_)
          obtain ⟨A23, c24, rfl, hT25⟩ := hR
          have hS := hS.join hT25
          refine sq_nil (then_j ⟨?_, ?_⟩)
          · exact fun hQ0 _ => hQ0.next hT25.below
          ·
            have hQC := hQC.next hT25.below
            refine e_val (listed' := #[true, true, true, true, true, true, true]) 6 rfl (by kernel_rfl) (by kernel_rfl) (fun _ _ _ h => h) (fun W => (v_assign hF rfl)) hF (by decide) (fun a hF => ?_)
            refine e_done (by kernel_rfl) ?_ _
            refine then_n ?_
            refine wp_seq ?_
            refine wp_reg ?_
            refine sq_val (v_assign hF rfl) hF (by decide) (fun a hF => ?_)
            refine sq_nil ?_
            refine then_n ?_
            obtain ⟨o37, h, hk38⟩ := bindS h
            refine wp_join (fun a W => ∃ (x34 : List Int) (A35 : Option Addr) (c36 : Nat), x34 = o37 ∧ FH 35 [(1, .pointer (some (⟨b1, 0, none⟩))), (3, .slice A35 (x34).length c36), (4, .int .i64 (x9))] a ∧ St M w0 [⟨b1, A12u64.enc u0, 24⟩] [⟨(kInt .u8), 5, A35, c36, x34⟩] [] W) (fun a W hJ => ?_) ?_
            ·
              obtain ⟨x34, A35, c36, rfl, hF, hS⟩ := hJ
              have h := hk38
              refine blk_n ?_
              refine then_n ?_
              refine wp_reg ?_
              refine sq_val (v_move hF rfl) hF (by decide) (fun a hF => ?_)
              refine sq_val (v_add hF rfl rfl) hF (by decide) (fun a hF => ?_)
              refine sq_val (v_assign hF rfl) hF (by decide) (fun a hF => ?_)
              refine sq_nil ?_
              exact then_j ⟨m15, Nat.lt_succ_self _, x34, (IntKind.i64.wrap (x9 + 1)), A35, c36, (hF.keep ⟨rfl, rfl, rfl, trivial⟩), hS, h⟩
            ·
              have hS := hS.perm (List.Perm.refl _) (.trans (.swap _ _ _) (List.Perm.refl _))
              refine wp_block ?_
              refine wp_loop_fuel (I := fun m a W => ∃ (x30 : List Int) (x33 : Int) (A31 : Option Addr) (c32 : Nat), FH 35 [(1, .pointer (some (⟨b1, 0, none⟩))), (3, .slice A31 (x30).length c32), (4, .int .i64 (x9)), (5, .slice A23 (x21).length c24), (6, .int .i64 (x33))] a ∧ St M w0 [⟨b1, A12u64.enc u0, 24⟩] [⟨(kInt .u8), 5, A31, c32, x30⟩, ⟨kBool, 4, A23, c24, x21⟩] [] W ∧ (ref01_Whole.l1 k x21 m x30 x33) = some o37) ?_ (k := k) ⟨x6, 0, A7, c8, (hF.keep ⟨rfl, rfl, rfl, rfl, rfl, trivial⟩), hS, h⟩
              rintro m39 a W ⟨x30, x33, A31, c32, hF, hS, h⟩
              cases m39 with
              | zero => cases h
              | succ m39 =>
                rw [ref01_Whole.l1] at h
                refine wp_seq ?_
                refine wp_seq ?_
                refine wp_reg ?_
                refine sq_val (v_move hF rfl) hF (by decide) (fun a hF => ?_)
                refine sq_val (v_move hF rfl) hF (by decide) (fun a hF => ?_)
                refine sq_val (v_len hF rfl pu116) hF (by decide) (fun a hF => ?_)
                refine sq_val (v_lss hF rfl rfl) hF (by decide) (fun a hF => ?_)
                refine sq_nil ?_
                refine then_n ?_
                refine wp_if hF rfl (fun he40 => ?_) (fun he40 => ?_)
                ·
                  replace h := ifT he40 h
                  refine wp_skip ?_
                  refine then_n ?_
                  refine wp_seq ?_
                  obtain ⟨o44, h, hk45⟩ := bindS h
                  refine wp_join (fun a W => ∃ (x41 : List Int) (A42 : Option Addr) (c43 : Nat), x41 = o44 ∧ FH 35 [(1, .pointer (some (⟨b1, 0, none⟩))), (3, .slice A42 (x41).length c43), (4, .int .i64 (x9)), (5, .slice A23 (x21).length c24), (6, .int .i64 (x33))] a ∧ St M w0 [⟨b1, A12u64.enc u0, 24⟩] [⟨(kInt .u8), 5, A42, c43, x41⟩, ⟨kBool, 4, A23, c24, x21⟩] [] W) (fun a W hJ => ?_) ?_
                  ·
                    obtain ⟨x41, A42, c43, rfl, hF, hS⟩ := hJ
                    have h := hk45
                    refine then_n ?_
                    refine wp_reg ?_
                    refine sq_val (v_move hF rfl) hF (by decide) (fun a hF => ?_)
                    refine sq_val (v_add hF rfl rfl) hF (by decide) (fun a hF => ?_)
                    refine sq_val (v_assign hF rfl) hF (by decide) (fun a hF => ?_)
                    refine sq_nil ?_
                    exact then_j ⟨m39, Nat.lt_succ_self _, x41, (IntKind.i64.wrap (x33 + 1)), A42, c43, (hF.keep ⟨rfl, rfl, rfl, rfl, rfl, trivial⟩), hS, h⟩
                  ·
                    refine wp_block ?_
                    refine wp_seq ?_
                    refine wp_reg ?_
                    refine sq_val (v_move hF rfl) hF (by decide) (fun a hF => ?_)
                    refine sq_val (v_move hF rfl) hF (by decide) (fun a hF => ?_)
                    obtain ⟨x46, hx47, h⟩ := bindS h
                    obtain ⟨p48, cs49, hA50, hc52, hr53⟩ := Row.ok.at (hS.rw_ (i := 1) rfl) hx47
                    obtain rfl : cs49 = [.bool (x46)] := hr53
                    refine sq_val (v_idx hF rfl hA50 rfl psl116 hx47) hF (by decide) (fun a hF => ?_)
                    refine sq_val (v_load1 hF rfl pa4 hc52) hF (by decide) (fun a hF => ?_)
                    refine sq_nil ?_
                    refine then_n ?_
                    obtain ⟨o57, h, hk58⟩ := bindS h
                    refine wp_join (fun a W => ∃ (x54 : List Int) (A55 : Option Addr) (c56 : Nat), x54 = o57 ∧ FH 35 [(1, .pointer (some (⟨b1, 0, none⟩))), (3, .slice A55 (x54).length c56), (4, .int .i64 (x9)), (5, .slice A23 (x21).length c24), (6, .int .i64 (x33))] a ∧ St M w0 [⟨b1, A12u64.enc u0, 24⟩] [⟨(kInt .u8), 5, A55, c56, x54⟩, ⟨kBool, 4, A23, c24, x21⟩] [] W) (fun a W hJ => ?_) ?_
                    ·
                      obtain ⟨x54, A55, c56, rfl, hF, hS⟩ := hJ
                      have h := hk58
                      refine blk_n ?_
                      obtain rfl := Option.some.inj h
                      exact then_j ⟨x54, A55, c56, rfl, (hF.keep ⟨rfl, rfl, rfl, rfl, rfl, trivial⟩), hS⟩
                    ·
                      refine wp_if hF rfl (fun he59 => ?_) (fun he59 => ?_)
                      ·
                        replace h := ifT he59 h
                        refine wp_reg ?_
                        refine sq_val (v_move hF rfl) hF (by decide) (fun a hF => ?_)
                        refine sq_buildSlice (κ := (kInt .u8)) (xs := [.const (.int .u8 49)]) (ys := [49]) hF hS rfl rfl rfl (Els.cons rfl (Els.nil _ _ _)) rfl psl82 pz5 rfl (by decide) (by decide) (by decide) (fun A60 c61 a W hF hS => ?_)
                        obtain ⟨x62, hx63, h⟩ := bindS h
                        refine sq_append (ys := ([49])) hF hS (i := 1) rfl rfl rfl (hS.rw_ (i := 0) rfl).src psl82 pb5 pz5 rfl (by decide) (by decide) hx63 (by decide) (fun A64 c65 a W hF hS => ?_)
                        refine sq_val (v_assign hF rfl) hF (by decide) (fun a hF => ?_)
                        refine sq_nil ?_
                        obtain rfl := Option.some.inj h
                        exact then_j ⟨x62, A64, c65, rfl, (hF.keep ⟨rfl, rfl, rfl, rfl, rfl, trivial⟩), (hS.keep (List.Sublist.refl _) (.cons _ (List.Sublist.refl _)) trivial)⟩
                      ·
                        replace h := ifF he59 h
                        refine wp_reg ?_
                        refine sq_val (v_move hF rfl) hF (by decide) (fun a hF => ?_)
                        refine sq_buildSlice (κ := (kInt .u8)) (xs := [.const (.int .u8 48)]) (ys := [48]) hF hS rfl rfl rfl (Els.cons rfl (Els.nil _ _ _)) rfl psl82 pz5 rfl (by decide) (by decide) (by decide) (fun A66 c67 a W hF hS => ?_)
                        obtain ⟨x68, hx69, h⟩ := bindS h
                        refine sq_append (ys := ([48])) hF hS (i := 1) rfl rfl rfl (hS.rw_ (i := 0) rfl).src psl82 pb5 pz5 rfl (by decide) (by decide) hx69 (by decide) (fun A70 c71 a W hF hS => ?_)
                        refine sq_val (v_assign hF rfl) hF (by decide) (fun a hF => ?_)
                        refine sq_nil ?_
                        obtain rfl := Option.some.inj h
                        exact then_j ⟨x68, A70, c71, rfl, (hF.keep ⟨rfl, rfl, rfl, rfl, rfl, trivial⟩), (hS.keep (List.Sublist.refl _) (.cons _ (List.Sublist.refl _)) trivial)⟩
                ·
                  replace h := ifF he40 h
                  refine wp_exit ?_
                  refine then_x ?_
                  refine then_x ?_
                  refine blk_hit ?_
                  obtain rfl := Option.some.inj h
                  exact then_j ⟨x30, A31, c32, rfl, (hF.keep ⟨rfl, rfl, rfl, trivial⟩), (hS.keep (List.Sublist.refl _) (.cons_cons _ (List.nil_sublist _)) trivial)⟩
      ·
        replace h := ifF he16 h
        refine wp_exit ?_
        refine then_x ?_
        refine then_x ?_
        refine blk_hit ?_
        obtain rfl := Option.some.inj h
        exact then_j ⟨x6, A7, c8, rfl, (hF.keep ⟨rfl, trivial⟩), (hS.keep (List.nil_sublist _) (List.Sublist.refl _) trivial)⟩

theorem ok_ref01_Has (k : Nat) {M : Nat → Prop} {w0 : World} {u0 : TCube} {u1 : Arr 12} {o : Bool} (hS : St M w0 [] [] [] w0) (h : ref01_Has k u0 u1 = some o) :
    Calls Try.prog 16 #[.agg (TCube.enc u0).toArray, .agg (A12u64.enc u1).toArray] w0 fun e W' => ∃ v, e = .returned v ∧ (v = .bool (o) ∧ St M w0 [] [] [] W') := by
  unfold ref01_Has at h
  refine calls_start (args := [.agg (TCube.enc u0).toArray, .agg (A12u64.enc u1).toArray]) Try.func16 rfl rfl (Nat.le_of_ble_eq_true rfl) (fun a hF => ?_)
  refine wp_seq ?_
  refine wp_reg ?_
  refine sq_box hF hS rfl rfl (by decide) (fun b1 a W hF hS => ?_)
  refine sq_box hF hS rfl rfl (by decide) (fun b2 a W hF hS => ?_)
  refine sq_val (v_assign hF rfl) hF (by decide) (fun a hF => ?_)
  refine sq_nil ?_
  refine then_n ?_
  refine wp_seq ?_
  refine wp_reg ?_
  refine sq_val (v_load (cs := TCube.enc u0) hF rfl pa26 ps26 (hS.bc (i := 1) rfl)) hF (by decide) (fun a hF => ?_)
  obtain ⟨x3, hx4, h⟩ := bindS h
  refine sq_call hF pc55 rfl (by decide) (ok_ref01_Text k (hS.enter trivial) hx4) (fun v W hR a hF => ?_)
  obtain ⟨rfl, hT5⟩ := hR
  have hS := hS.grow hT5.below
  refine sq_val (v_move hF rfl) hF (by decide) (fun a hF => ?_)
  refine sq_val (v_extract hF rfl rfl) hF (by decide) (fun a hF => ?_)
  refine sq_val (v_extract hF rfl rfl) hF (by decide) (fun a hF => ?_)
  refine sq_val (v_assign hF rfl) hF (by decide) (fun a hF => ?_)
  refine sq_val (v_assign hF rfl) hF (by decide) (fun a hF => ?_)
  refine sq_nil ?_
  refine then_n ?_
  refine wp_seq ?_
  refine wp_reg ?_
  refine sq_val (v_load (cs := A12u64.enc u1) hF rfl pa24 ps24 (hS.bc (i := 0) rfl)) hF (by decide) (fun a hF => ?_)
  obtain ⟨x6, hx7, h⟩ := bindS h
  refine sq_call hF pc60 rfl (by decide) (ok_ref01_Whole k (hS.enter trivial) hx7) (fun v W hR a hF => ?_)
  obtain ⟨rfl, hT8⟩ := hR
  have hS := hS.grow hT8.below
  refine sq_val (v_assign hF rfl) hF (by decide) (fun a hF => ?_)
  refine sq_nil ?_
  refine then_n ?_
  refine wp_seq ?_
  refine wp_seq ?_
  refine wp_reg ?_
  refine sq_val (v_assign hF rfl) hF (by decide) (fun a hF => ?_)
  refine sq_nil ?_
  refine then_n ?_
  obtain ⟨o14, h, hk15⟩ := bindS h
  refine wp_join (fun a W => ∃ (x13 : Bool), x13 = o14 ∧ FH 43 [(3, .pointer (some (⟨b2, 0, none⟩))), (6, .bool (x13))] a ∧ St M w0 [⟨b2, A12u64.enc u1, 24⟩] [] [] W) (fun a W hJ => ?_) ?_
  ·
    obtain ⟨x13, rfl, hF, hS⟩ := hJ
    have h := hk15
    refine then_n ?_
    refine wp_seq ?_
    refine wp_reg ?_
    refine sq_val (v_move hF rfl) hF (by decide) (fun a hF => ?_)
    refine sq_val (v_move hF rfl) hF (by decide) (fun a hF => ?_)
    obtain ⟨x17, h, hk19⟩ := bindS h
    refine sq_cut 3 (fun a W => FH 43 [(42, .bool x17)] a ∧ St M w0 [⟨b2, A12u64.enc u1, 24⟩] [] [] W) (fun a W hJ => ?_) ?_
    ·
      have h := hk19
      obtain ⟨hF, hS⟩ := hJ
      refine sq_val (v_assign hF rfl) hF (by decide) (fun a hF => ?_)
      refine sq_nil ?_
      refine then_n ?_
      refine wp_ret ?_
      obtain rfl := Option.some.inj h
      exact ret1 hF rfl (rv_tmp hF rfl) ⟨_, rfl, rfl, (hS.keep (List.nil_sublist _) (List.Sublist.refl _) trivial)⟩
    ·
      by_cases he16 : x13 = true
      ·
        replace h := ifT he16 h
        refine sq_yes hF rfl rfl he16 ?_
        refine sq_val (v_load (cs := A12u64.enc u1) hF rfl pa24 ps24 (hS.bc (i := 0) rfl)) hF (by decide) (fun a hF => ?_)
        refine sq_yes hF rfl rfl he16 ?_
        obtain ⟨x20, hx21, h⟩ := bindS h
        refine sq_call hF pc61 rfl (by decide) (ok_ref01_Head k (hS.enter trivial) hx21) (fun v W hR a hF => ?_)
        obtain ⟨rfl, hT22⟩ := hR
        have hS := hS.grow hT22.below
        refine sq_val (v_pick_t hF rfl he16 rfl) hF (by decide) (fun a hF => ?_)
        obtain rfl := Option.some.inj h
        exact sq_nil (then_j ⟨(hF.keep ⟨rfl, trivial⟩), hS⟩)
      ·
        have he16 : x13 = false := nB he16
        replace h := ifF he16 h
        refine sq_no hF rfl rfl he16 (by rintro x ⟨⟩; decide) (fun a hF => ?_)
        refine sq_no hF rfl rfl he16 (by rintro x ⟨⟩; decide) (fun a hF => ?_)
        refine sq_val (v_pick_f hF rfl he16 rfl) hF (by decide) (fun a hF => ?_)
        obtain rfl := Option.some.inj h
        exact sq_nil (then_j ⟨(hF.keep ⟨rfl, trivial⟩), hS⟩)
  ·
    refine wp_block ?_
    refine wp_loop_fuel (I := fun m a W => ∃ (x11 : Bool) (x12 : Int), FH 43 [(3, .pointer (some (⟨b2, 0, none⟩))), (5, .string (x3.1)), (6, .bool (x11)), (7, .string (x6)), (8, .int .i64 (x12))] a ∧ St M w0 [⟨b2, A12u64.enc u1, 24⟩] [] [] W ∧ (ref01_Has.l0 k x3 x6 m x11 x12) = some o14) ?_ (k := k) ⟨x3.2, 0, (hF.keep ⟨rfl, rfl, rfl, rfl, rfl, trivial⟩), (hS.keep (.cons_cons _ (List.nil_sublist _)) (List.Sublist.refl _) trivial), h⟩
    rintro m23 a W ⟨x11, x12, hF, hS, h⟩
    cases m23 with
    | zero => cases h
    | succ m23 =>
      rw [ref01_Has.l0] at h
      refine wp_seq ?_
      refine wp_seq ?_
      refine wp_reg ?_
      refine sq_val (v_move hF rfl) hF (by decide) (fun a hF => ?_)
      refine sq_val (v_move hF rfl) hF (by decide) (fun a hF => ?_)
      refine sq_val (v_lenS hF rfl pu9) hF (by decide) (fun a hF => ?_)
      refine sq_val (v_lss hF rfl rfl) hF (by decide) (fun a hF => ?_)
      refine sq_nil ?_
      refine then_n ?_
      refine wp_if hF rfl (fun he24 => ?_) (fun he24 => ?_)
      ·
        replace h := ifT he24 h
        refine wp_skip ?_
        refine then_n ?_
        refine wp_seq ?_
        refine wp_block ?_
        refine wp_quiet rfl (by kernel_rfl) hS ?_
        refine qt_val (fun W hC => (v_move hF rfl)) hF (by decide) (fun a hF => ?_)
        refine qt_val (fun W hC => (v_move hF rfl)) hF (by decide) (fun a hF => ?_)
        obtain ⟨x26, h, hk28⟩ := bindS h
        refine qt_cut 14 (fun a => FH 43 [(3, .pointer (some (⟨b2, 0, none⟩))), (5, .string (x3.1)), (7, .string (x6)), (8, .int .i64 (x12)), (37, .bool x26)] a) (fun a hF => ?_) ?_
        ·
          have h := hk28
          refine qt_val (fun W hC => (v_assign hF rfl)) hF (by decide) (fun a hF => ?_)
          refine qt_nil ?_
          intro W hC
          have hS := hC.2
          refine blk_n ?_
          refine then_n ?_
          refine wp_reg ?_
          refine sq_val (v_move hF rfl) hF (by decide) (fun a hF => ?_)
          refine sq_val (v_add hF rfl rfl) hF (by decide) (fun a hF => ?_)
          refine sq_val (v_assign hF rfl) hF (by decide) (fun a hF => ?_)
          refine sq_nil ?_
          exact then_j ⟨m23, Nat.lt_succ_self _, x26, (IntKind.i64.wrap (x12 + 1)), (hF.keep ⟨rfl, rfl, rfl, rfl, rfl, trivial⟩), hS, h⟩
        ·
          by_cases he25 : x11 = true
          ·
            replace h := ifT he25 h
            refine qt_yes hF rfl rfl he25 ?_
            refine qt_val (fun W hC => (v_move hF rfl)) hF (by decide) (fun a hF => ?_)
            refine qt_yes hF rfl rfl he25 ?_
            refine qt_val (fun W hC => (v_move hF rfl)) hF (by decide) (fun a hF => ?_)
            refine qt_yes hF rfl rfl he25 ?_
            obtain ⟨hb29, h⟩ := ifS h
            refine qt_val (fun W hC => (v_indexStr hF rfl rfl pu9 hb29.1 hb29.2)) hF (by decide) (fun a hF => ?_)
            refine qt_yes hF rfl rfl he25 ?_
            refine qt_val (fun W hC => (v_eql hF rfl rfl)) hF (by decide) (fun a hF => ?_)
            refine qt_yes hF rfl rfl he25 ?_
            refine qt_val (fun W hC => (v_move hF rfl)) hF (by decide) (fun a hF => ?_)
            obtain ⟨x31, h, hk33⟩ := bindS h
            refine qt_cut 8 (fun a => FH 43 [(3, .pointer (some (⟨b2, 0, none⟩))), (5, .string (x3.1)), (7, .string (x6)), (8, .int .i64 (x12)), (23, .bool (x11)), (24, .string (x3.1)), (25, .int .i64 (x12)), (26, .int .u8 ((byteAt x3.1 x12))), (27, .bool (((byteAt x3.1 x12) == 120))), (28, .bool (((byteAt x3.1 x12) == 120))), (36, .bool x31)] a) (fun a hF => ?_) ?_
            ·
              have h := hk33
              refine qt_val (fun W hC => (v_pick_t hF rfl he25 rfl)) hF (by decide) (fun a hF => ?_)
              obtain rfl := Option.some.inj h
              exact qt_nil (hF.keep ⟨rfl, rfl, rfl, rfl, rfl, trivial⟩)
            ·
              by_cases he30 : ((byteAt x3.1 x12) == 120) = true
              ·
                replace h := ifT he30 h
                refine qt_no hF rfl rfl he30 (by decide) (fun a hF => ?_)
                refine qt_no hF rfl rfl he30 (by decide) (fun a hF => ?_)
                refine qt_no hF rfl rfl he30 (by decide) (fun a hF => ?_)
                refine qt_no hF rfl rfl he30 (by decide) (fun a hF => ?_)
                refine qt_no hF rfl rfl he30 (by decide) (fun a hF => ?_)
                refine qt_no hF rfl rfl he30 (by decide) (fun a hF => ?_)
                refine qt_no hF rfl rfl he30 (by decide) (fun a hF => ?_)
                refine qt_yes hF rfl rfl he25 ?_
                refine qt_val (fun W hC => (v_pick_t hF rfl he30 rfl)) hF (by decide) (fun a hF => ?_)
                obtain rfl := Option.some.inj h
                exact qt_nil (hF.keep ⟨rfl, rfl, rfl, rfl, rfl, rfl, rfl, rfl, rfl, rfl, rfl, trivial⟩)
              ·
                have he30 : ((byteAt x3.1 x12) == 120) = false := nB he30
                replace h := ifF he30 h
                refine qt_yes hF rfl rfl he30 ?_
                refine qt_val (fun W hC => (v_move hF rfl)) hF (by decide) (fun a hF => ?_)
                refine qt_yes hF rfl rfl he30 ?_
                refine qt_val (fun W hC => (v_move hF rfl)) hF (by decide) (fun a hF => ?_)
                refine qt_yes hF rfl rfl he30 ?_
                refine qt_val (fun W hC => (v_indexStr hF rfl rfl pu9 hb29.1 hb29.2)) hF (by decide) (fun a hF => ?_)
                refine qt_yes hF rfl rfl he30 ?_
                refine qt_val (fun W hC => (v_move hF rfl)) hF (by decide) (fun a hF => ?_)
                refine qt_yes hF rfl rfl he30 ?_
                refine qt_val (fun W hC => (v_move hF rfl)) hF (by decide) (fun a hF => ?_)
                refine qt_yes hF rfl rfl he30 ?_
                obtain ⟨hb34, h⟩ := ifS h
                refine qt_val (fun W hC => (v_indexStr hF rfl rfl pu9 hb34.1 hb34.2)) hF (by decide) (fun a hF => ?_)
                refine qt_yes hF rfl rfl he30 ?_
                refine qt_val (fun W hC => (v_eql hF rfl rfl)) hF (by decide) (fun a hF => ?_)
                refine qt_yes hF rfl rfl he25 ?_
                refine qt_val (fun W hC => (v_pick_f hF rfl he30 rfl)) hF (by decide) (fun a hF => ?_)
                obtain rfl := Option.some.inj h
                exact qt_nil (hF.keep ⟨rfl, rfl, rfl, rfl, rfl, rfl, rfl, rfl, rfl, rfl, rfl, trivial⟩)
          ·
            have he25 : x11 = false := nB he25
            replace h := ifF he25 h
            refine qt_no hF rfl rfl he25 (by decide) (fun a hF => ?_)
            refine qt_no hF rfl rfl he25 (by decide) (fun a hF => ?_)
            refine qt_no hF rfl rfl he25 (by decide) (fun a hF => ?_)
            refine qt_no hF rfl rfl he25 (by decide) (fun a hF => ?_)
            refine qt_no hF rfl rfl he25 (by decide) (fun a hF => ?_)
            refine qt_no2 hF rfl rfl (by decide) (fun a hF => ?_)
            refine qt_no2 hF rfl rfl (by decide) (fun a hF => ?_)
            refine qt_no2 hF rfl rfl (by decide) (fun a hF => ?_)
            refine qt_no2 hF rfl rfl (by decide) (fun a hF => ?_)
            refine qt_no2 hF rfl rfl (by decide) (fun a hF => ?_)
            refine qt_no2 hF rfl rfl (by decide) (fun a hF => ?_)
            refine qt_no2 hF rfl rfl (by decide) (fun a hF => ?_)
            refine qt_no hF rfl rfl he25 (by decide) (fun a hF => ?_)
            refine qt_val (fun W hC => (v_pick_f hF rfl he25 rfl)) hF (by decide) (fun a hF => ?_)
            obtain rfl := Option.some.inj h
            exact qt_nil (hF.keep ⟨rfl, rfl, rfl, rfl, rfl, trivial⟩)
      ·
        replace h := ifF he24 h
        refine wp_exit ?_
        refine then_x ?_
        refine then_x ?_
        refine blk_hit ?_
        obtain rfl := Option.some.inj h
        exact then_j ⟨x11, rfl, (hF.keep ⟨rfl, rfl, trivial⟩), hS⟩

theorem ok_ref01_Cube (k : Nat) {M : Nat → Prop} {w0 : World} {u0 : TCube} {o : Bool} (hS : St M w0 [] [] [] w0) (h : ref01_Cube k u0 = some o) :
    Calls Try.prog 17 #[.agg (TCube.enc u0).toArray] w0 fun e W' => ∃ v, e = .returned v ∧ (v = .bool (o) ∧ St M w0 [] [] [] W') := by
  unfold ref01_Cube at h
  refine calls_start (args := [.agg (TCube.enc u0).toArray]) Try.func17 rfl rfl (Nat.le_of_ble_eq_true rfl) (fun a hF => ?_)
  refine wp_seq ?_
  refine wp_reg ?_
  refine sq_box hF hS rfl rfl (by decide) (fun b1 a W hF hS => ?_)
  refine sq_val (v_assign hF rfl) hF (by decide) (fun a hF => ?_)
  refine sq_nil ?_
  refine then_n ?_
  refine wp_seq ?_
  refine wp_reg ?_
  refine sq_val (v_load (cs := TCube.enc u0) hF rfl pa26 ps26 (hS.bc (i := 0) rfl)) hF (by decide) (fun a hF => ?_)
  obtain ⟨x2, hx3, h⟩ := bindS h
  refine sq_call hF pc55 rfl (by decide) (ok_ref01_Text k (hS.enter trivial) hx3) (fun v W hR a hF => ?_)
  obtain ⟨rfl, hT4⟩ := hR
  have hS := hS.grow hT4.below
  refine sq_val (v_move hF rfl) hF (by decide) (fun a hF => ?_)
  refine sq_val (v_extract hF rfl rfl) hF (by decide) (fun a hF => ?_)
  refine sq_val (v_extract hF rfl rfl) hF (by decide) (fun a hF => ?_)
  refine sq_val (v_assign hF rfl) hF (by decide) (fun a hF => ?_)
  refine sq_val (v_assign hF rfl) hF (by decide) (fun a hF => ?_)
  refine sq_nil ?_
  refine then_n ?_
  refine wp_seq ?_
  refine wp_reg ?_
  refine sq_val (v_move hF rfl) hF (by decide) (fun a hF => ?_)
  refine sq_val (v_assign hF rfl) hF (by decide) (fun a hF => ?_)
  refine sq_nil ?_
  refine then_n ?_
  refine wp_ret ?_
  obtain rfl := Option.some.inj h
  exact ret1 hF rfl (rv_tmp hF rfl) ⟨_, rfl, rfl, (hS.keep (List.nil_sublist _) (List.Sublist.refl _) trivial)⟩

theorem ok_cube_All {M : Nat → Prop} {w0 : World}  {o : TCube} (hS : St M w0 [] [] [] w0) (h : cube_All = some o) :
    Calls Try.prog 63 #[] w0 fun e W' => ∃ v, e = .returned v ∧ (v = .agg (TCube.enc o).toArray ∧ St M w0 [] [] [] W') := by
  unfold cube_All at h
  refine calls_start (args := []) Try.func63 rfl rfl (Nat.le_of_ble_eq_true rfl) (fun a hF => ?_)
  refine wp_seq ?_
  refine wp_reg ?_
  refine sq_alloc hF hS pz26 rfl (by decide) (fun b1 a W hF hS => ?_)
  refine sq_nil ?_
  refine then_n ?_
  refine wp_seq ?_
  refine wp_reg ?_
  refine sq_val (v_build (parts := []) (out := TCube.enc TCube.zero) hF rfl rfl pz26 rfl pp26 rfl) hF (by decide) (fun a hF => ?_)
  refine sq_store (o := 0) (vs := TCube.enc TCube.zero) (cs' := TCube.enc TCube.zero) hF hS rfl rfl (i := 0) rfl rfl rfl ps26 (TCube.enc_one _) (Nat.le_of_ble_eq_true rfl) rfl (fun W hS => ?_)
  refine sq_nil ?_
  refine then_n ?_
  refine wp_ret ?_
  obtain rfl := Option.some.inj h
  exact ret1 hF rfl (rv_cell (cs := TCube.enc TCube.zero) hF rfl pa26 ps26 (hS.bc (i := 0) rfl)) ⟨_, rfl, rfl, (hS.keep (List.nil_sublist _) (List.Sublist.refl _) trivial)⟩

theorem ok_head_Set {M : Nat → Prop} {w0 : World} {u0 : Arr 12} {u1 : Int} {u2 : Int} {o : (Arr 12) × Int} (hS : St M w0 [] [] [] w0) (h : head_Set u0 u1 u2 = some o) :
    Calls Try.prog 115 #[.agg (A12u64.enc u0).toArray, .int .i64 (u1), .int .u64 (u2)] w0 fun e W' => ∃ v, e = .returned v ∧ (v = .tuple #[.agg (A12u64.enc o.1).toArray, .int .i64 (o.2)] ∧ St M w0 [] [] [] W') := by
  unfold head_Set at h
  refine calls_start (args := [.agg (A12u64.enc u0).toArray, .int .i64 (u1), .int .u64 (u2)]) Try.func115 rfl rfl (Nat.le_of_ble_eq_true rfl) (fun a hF => ?_)
  refine wp_seq ?_
  refine wp_reg ?_
  refine sq_box hF hS rfl rfl (by decide) (fun b1 a W hF hS => ?_)
  refine sq_alloc hF hS pz24 rfl (by decide) (fun b2 a W hF hS => ?_)
  refine sq_val (v_assign hF rfl) hF (by decide) (fun a hF => ?_)
  refine sq_nil ?_
  refine then_n ?_
  refine wp_seq ?_
  refine wp_block ?_
  refine wp_seq ?_
  refine wp_reg ?_
  refine sq_val (v_move hF rfl) hF (by decide) (fun a hF => ?_)
  obtain ⟨x3, hx4, h⟩ := bindS h
  refine sq_call hF pc111 rfl (by decide) (ok_head_there (hS.enter trivial) hx4) (fun v W hR a hF => ?_)
  obtain ⟨rfl, hT5⟩ := hR
  have hS := hS.grow hT5.below
  refine sq_val (v_not hF rfl) hF (by decide) (fun a hF => ?_)
  refine sq_val (v_assign hF rfl) hF (by decide) (fun a hF => ?_)
  refine sq_nil ?_
  refine then_n ?_
  refine wp_if hF rfl (fun he6 => ?_) (fun he6 => ?_)
  ·
    replace h := ifT he6 h
    refine wp_seq ?_
    refine wp_reg ?_
    refine sq_val (v_buildA (parts := []) (out := A12u64.enc A12u64.zero) hF rfl rfl pz24 rfl par24 rfl) hF (by decide) (fun a hF => ?_)
    refine sq_store (o := 0) (vs := A12u64.enc A12u64.zero) (cs' := A12u64.enc A12u64.zero) hF hS rfl rfl (i := 0) rfl rfl rfl ps24 (A12u64.enc_one _) (Nat.le_of_ble_eq_true rfl) rfl (fun W hS => ?_)
    refine sq_val (v_assign hF rfl) hF (by decide) (fun a hF => ?_)
    refine sq_nil ?_
    refine then_n ?_
    refine wp_ret ?_
    refine blk_r ?_
    refine then_r ?_
    obtain rfl := Option.some.inj h
    exact ret2 hF rfl (rv_cell (cs := A12u64.enc A12u64.zero) hF rfl pa24 ps24 (hS.bc (i := 0) rfl)) (rv_tmp hF rfl) ⟨_, rfl, rfl, (hS.keep (List.nil_sublist _) (List.Sublist.refl _) trivial)⟩
  ·
    replace h := ifF he6 h
    refine wp_seq ?_
    refine wp_reg ?_
    refine sq_val (v_move hF rfl) hF (by decide) (fun a hF => ?_)
    refine sq_val (v_move hF rfl) hF (by decide) (fun a hF => ?_)
    obtain ⟨x7, hx8, h⟩ := bindS h
    refine sq_call hF pc113 rfl (by decide) (ok_head_fits (hS.enter trivial) hx8) (fun v W hR a hF => ?_)
    obtain ⟨rfl, hT9⟩ := hR
    have hS := hS.grow hT9.below
    refine sq_val (v_not hF rfl) hF (by decide) (fun a hF => ?_)
    refine sq_val (v_assign hF rfl) hF (by decide) (fun a hF => ?_)
    refine sq_nil ?_
    refine then_n ?_
    refine wp_if hF rfl (fun he10 => ?_) (fun he10 => ?_)
    ·
      replace h := ifT he10 h
      refine wp_seq ?_
      refine wp_reg ?_
      refine sq_val (v_buildA (parts := []) (out := A12u64.enc A12u64.zero) hF rfl rfl pz24 rfl par24 rfl) hF (by decide) (fun a hF => ?_)
      refine sq_store (o := 0) (vs := A12u64.enc A12u64.zero) (cs' := A12u64.enc A12u64.zero) hF hS rfl rfl (i := 0) rfl rfl rfl ps24 (A12u64.enc_one _) (Nat.le_of_ble_eq_true rfl) rfl (fun W hS => ?_)
      refine sq_val (v_assign hF rfl) hF (by decide) (fun a hF => ?_)
      refine sq_nil ?_
      refine then_n ?_
      refine wp_ret ?_
      refine blk_r ?_
      refine then_r ?_
      obtain rfl := Option.some.inj h
      exact ret2 hF rfl (rv_cell (cs := A12u64.enc A12u64.zero) hF rfl pa24 ps24 (hS.bc (i := 0) rfl)) (rv_tmp hF rfl) ⟨_, rfl, rfl, (hS.keep (List.nil_sublist _) (List.Sublist.refl _) trivial)⟩
    ·
      replace h := ifF he10 h
      refine wp_skip ?_
      refine blk_n ?_
      refine then_n ?_
      refine wp_seq ?_
      refine wp_reg ?_
      refine sq_val (v_move hF rfl) hF (by decide) (fun a hF => ?_)
      refine sq_val (v_move hF rfl) hF (by decide) (fun a hF => ?_)
      obtain ⟨hb11, h⟩ := ifS h
      refine sq_val (v_indexAddr hF rfl rfl par24 hb11.1 hb11.2) hF (by decide) (fun a hF => ?_)
      refine sq_store (o := u1.toNat * 1) (vs := [.int .u64 (u2)]) (cs' := A12u64.enc (u0.upd u1 u2)) hF hS rfl (by simp only [add_add, add_plain, Nat.zero_add]) (i := 1) rfl rfl rfl ps22 (one1 rfl) (by have h0 := hb11.1; have h1 := hb11.2; simp only [A12u64.enc, List.length_cons, List.length_nil]; omega) (A12u64.set u0 u1 _ hb11.1 hb11.2) (fun W hS => ?_)
      refine sq_nil ?_
      refine then_n ?_
      refine wp_seq ?_
      refine wp_reg ?_
      refine sq_val (v_load (cs := A12u64.enc (u0.upd u1 u2)) hF rfl pa24 ps24 (hS.bc (i := 1) rfl)) hF (by decide) (fun a hF => ?_)
      refine sq_store (o := 0) (vs := A12u64.enc (u0.upd u1 u2)) (cs' := A12u64.enc (u0.upd u1 u2)) hF hS rfl rfl (i := 0) rfl rfl rfl ps24 (A12u64.enc_one _) (Nat.le_of_ble_eq_true rfl) rfl (fun W hS => ?_)
      refine sq_val (v_assign hF rfl) hF (by decide) (fun a hF => ?_)
      refine sq_nil ?_
      refine then_n ?_
      refine wp_ret ?_
      obtain rfl := Option.some.inj h
      exact ret2 hF rfl (rv_cell (cs := A12u64.enc (u0.upd u1 u2)) hF rfl pa24 ps24 (hS.bc (i := 0) rfl)) (rv_tmp hF rfl) ⟨_, rfl, rfl, (hS.keep (List.nil_sublist _) (List.Sublist.refl _) trivial)⟩

theorem ok_head_Mask {M : Nat → Prop} {w0 : World} {u0 : Int} {u1 : Int} {o : Int × Bool} (hS : St M w0 [] [] [] w0) (h : head_Mask u0 u1 = some o) :
    Calls Try.prog 116 #[.int .i64 (u0), .int .i64 (u1)] w0 fun e W' => ∃ v, e = .returned v ∧ (v = .tuple #[.int .u64 (o.1), .bool (o.2)] ∧ St M w0 [] [] [] W') := by
  unfold head_Mask at h
  refine calls_start (args := [.int .i64 (u0), .int .i64 (u1)]) Try.func116 rfl rfl (Nat.le_of_ble_eq_true rfl) (fun a hF => ?_)
  refine wp_seq ?_
  refine wp_reg ?_
  refine sq_val (v_assign hF rfl) hF (by decide) (fun a hF => ?_)
  refine sq_val (v_assign hF rfl) hF (by decide) (fun a hF => ?_)
  refine sq_nil ?_
  refine then_n ?_
  refine wp_seq ?_
  refine wp_seq ?_
  refine wp_reg ?_
  refine sq_val (v_move hF rfl) hF (by decide) (fun a hF => ?_)
  obtain ⟨x1, hx2, h⟩ := bindS h
  refine sq_call hF pc111 rfl (by decide) (ok_head_there (hS.enter trivial) hx2) (fun v W hR a hF => ?_)
  obtain ⟨rfl, hT3⟩ := hR
  have hS := hS.grow hT3.below
  refine sq_val (v_not hF rfl) hF (by decide) (fun a hF => ?_)
  refine sq_val (v_move hF rfl) hF (by decide) (fun a hF => ?_)
  refine sq_cut 3 (fun a W => FH 27 [(0, .int .i64 (u0)), (1, .int .i64 (u1)), (12, .bool ((!x1) || (decide (u1 < 0))))] a ∧ St M w0 [] [] [] W) (fun a W hJ => ?_) ?_
  ·
    obtain ⟨hF, hS⟩ := hJ
    refine sq_val (v_move hF rfl) hF (by decide) (fun a hF => ?_)
    obtain ⟨x6, h, hk8⟩ := bindS h
    refine sq_cut 5 (fun a W => FH 27 [(0, .int .i64 (u0)), (1, .int .i64 (u1)), (18, .bool x6)] a ∧ St M w0 [] [] [] W) (fun a W hJ => ?_) ?_
    ·
      have h := hk8
      obtain ⟨hF, hS⟩ := hJ
      refine sq_nil ?_
      refine then_n ?_
      refine wp_if hF rfl (fun he12 => ?_) (fun he12 => ?_)
      ·
        replace h := ifT he12 h
        refine wp_seq ?_
        refine wp_reg ?_
        refine sq_val (v_assign hF rfl) hF (by decide) (fun a hF => ?_)
        refine sq_val (v_assign hF rfl) hF (by decide) (fun a hF => ?_)
        refine sq_nil ?_
        refine then_n ?_
        refine wp_ret ?_
        refine then_r ?_
        obtain rfl := Option.some.inj h
        exact ret2 hF rfl (rv_tmp hF rfl) (rv_tmp hF rfl) ⟨_, rfl, rfl, hS⟩
      ·
        replace h := ifF he12 h
        refine wp_skip ?_
        refine then_n ?_
        refine wp_seq ?_
        refine wp_quiet rfl (by kernel_rfl) hS ?_
        refine qt_val (fun W hC => (v_move hF rfl)) hF (by decide) (fun a hF => ?_)
        obtain ⟨hb13, h⟩ := ifS h
        refine qt_val (fun W hC => (v_shl hF rfl rfl hb13)) hF (by decide) (fun a hF => ?_)
        refine qt_val (fun W hC => (v_sub hF rfl rfl)) hF (by decide) (fun a hF => ?_)
        refine qt_val (fun W hC => (v_move hF rfl)) hF (by decide) (fun a hF => ?_)
        obtain ⟨x14, hx15, h⟩ := bindS h
        refine qt_call hF pc57 rfl (by decide) (fun W hC => q_of hC (ok_head_Size (hC.2.enter trivial) hx15)) (fun a hF => ?_)
        refine qt_val (fun W hC => (v_move hF rfl)) hF (by decide) (fun a hF => ?_)
        refine qt_val (fun W hC => (v_sub hF rfl rfl)) hF (by decide) (fun a hF => ?_)
        obtain ⟨hb16, h⟩ := ifS h
        refine qt_val (fun W hC => (v_shl hF rfl rfl hb16)) hF (by decide) (fun a hF => ?_)
        refine qt_val (fun W hC => (v_assign hF rfl)) hF (by decide) (fun a hF => ?_)
        refine qt_val (fun W hC => (v_assign hF rfl)) hF (by decide) (fun a hF => ?_)
        refine qt_nil ?_
        intro W hC
        have hS := hC.2
        refine then_n ?_
        refine wp_ret ?_
        obtain rfl := Option.some.inj h
        exact ret2 hF rfl (rv_tmp hF rfl) (rv_tmp hF rfl) ⟨_, rfl, rfl, hS⟩
    ·
      by_cases he5 : ((!x1) || (decide (u1 < 0))) = true
      ·
        replace h := ifT he5 h
        refine sq_no hF rfl rfl he5 (by rintro x ⟨⟩; decide) (fun a hF => ?_)
        refine sq_no hF rfl rfl he5 (by rintro x ⟨⟩; decide) (fun a hF => ?_)
        refine sq_no hF rfl rfl he5 (by rintro x ⟨⟩; decide) (fun a hF => ?_)
        refine sq_no hF rfl rfl he5 (by rintro x ⟨⟩; decide) (fun a hF => ?_)
        refine sq_val (v_pick_t hF rfl he5 rfl) hF (by decide) (fun a hF => ?_)
        obtain rfl := Option.some.inj h
        exact sq_nil (then_j ⟨(hF.keep ⟨rfl, rfl, rfl, trivial⟩), hS⟩)
      ·
        have he5 : ((!x1) || (decide (u1 < 0))) = false := nB he5
        replace h := ifF he5 h
        refine sq_yes hF rfl rfl he5 ?_
        refine sq_val (v_move hF rfl) hF (by decide) (fun a hF => ?_)
        refine sq_yes hF rfl rfl he5 ?_
        refine sq_val (v_move hF rfl) hF (by decide) (fun a hF => ?_)
        refine sq_yes hF rfl rfl he5 ?_
        obtain ⟨x9, hx10, h⟩ := bindS h
        refine sq_call hF pc57 rfl (by decide) (ok_head_Size (hS.enter trivial) hx10) (fun v W hR a hF => ?_)
        obtain ⟨rfl, hT11⟩ := hR
        have hS := hS.grow hT11.below
        refine sq_yes hF rfl rfl he5 ?_
        refine sq_val (v_gtr hF rfl rfl) hF (by decide) (fun a hF => ?_)
        refine sq_val (v_pick_f hF rfl he5 rfl) hF (by decide) (fun a hF => ?_)
        obtain rfl := Option.some.inj h
        exact sq_nil (then_j ⟨(hF.keep ⟨rfl, rfl, rfl, trivial⟩), hS⟩)
  ·
    by_cases he4 : (!x1) = true
    ·
      refine sq_no hF rfl rfl he4 (by rintro x ⟨⟩; decide) (fun a hF => ?_)
      refine sq_no hF rfl rfl he4 (by rintro x ⟨⟩; decide) (fun a hF => ?_)
      refine sq_val (v_pick_t hF rfl he4 rfl) hF (by decide) (fun a hF => ?_)
      exact sq_nil (then_j ⟨(hF.keep ⟨rfl, rfl, (boolV (or_t he4)), trivial⟩), hS⟩)
    ·
      have he4 : (!x1) = false := nB he4
      refine sq_yes hF rfl rfl he4 ?_
      refine sq_val (v_move hF rfl) hF (by decide) (fun a hF => ?_)
      refine sq_yes hF rfl rfl he4 ?_
      refine sq_val (v_lss hF rfl rfl) hF (by decide) (fun a hF => ?_)
      refine sq_val (v_pick_f hF rfl he4 rfl) hF (by decide) (fun a hF => ?_)
      exact sq_nil (then_j ⟨(hF.keep ⟨rfl, rfl, (boolV (or_f he4)), trivial⟩), hS⟩)

theorem ok_cube_With (k : Nat) {M : Nat → Prop} {w0 : World} {u0 : TCube} {u1 : Int} {u2 : Int} {u3 : Int} {o : TCube × Int} (hS : St M w0 [] [] [] w0) (h : cube_With k u0 u1 u2 u3 = some o) :
    Calls Try.prog 62 #[.agg (TCube.enc u0).toArray, .int .i64 (u1), .int .u64 (u2), .int .i64 (u3)] w0 fun e W' => ∃ v, e = .returned v ∧ (v = .tuple #[.agg (TCube.enc o.1).toArray, .int .i64 (o.2)] ∧ St M w0 [] [] [] W') := by
  unfold cube_With at h
  refine calls_start (args := [.agg (TCube.enc u0).toArray, .int .i64 (u1), .int .u64 (u2), .int .i64 (u3)]) Try.func62 rfl rfl (Nat.le_of_ble_eq_true rfl) (fun a hF => ?_)
  refine wp_seq ?_
  refine wp_reg ?_
  refine sq_box hF hS rfl rfl (by decide) (fun b1 a W hF hS => ?_)
  refine sq_alloc hF hS pz26 rfl (by decide) (fun b2 a W hF hS => ?_)
  refine sq_val (v_assign hF rfl) hF (by decide) (fun a hF => ?_)
  refine sq_nil ?_
  refine then_n ?_
  refine wp_seq ?_
  refine wp_seq ?_
  refine wp_reg ?_
  refine sq_val (v_load (cs := TCube.enc u0) hF rfl pa26 ps26 (hS.bc (i := 1) rfl)) hF (by decide) (fun a hF => ?_)
  obtain ⟨x3, hx4, h⟩ := bindS h
  refine sq_call hF pc58 rfl (by decide) (ok_cube_Sound k (hS.enter trivial) hx4) (fun v W hR a hF => ?_)
  obtain ⟨rfl, hT5⟩ := hR
  have hS := hS.grow hT5.below
  refine sq_val (v_not hF rfl) hF (by decide) (fun a hF => ?_)
  refine sq_nil ?_
  refine then_n ?_
  refine wp_if hF rfl (fun he6 => ?_) (fun he6 => ?_)
  ·
    replace h := ifT he6 h
    refine wp_seq ?_
    refine wp_reg ?_
    refine sq_val (v_build (parts := []) (out := TCube.enc TCube.zero) hF rfl rfl pz26 rfl pp26 rfl) hF (by decide) (fun a hF => ?_)
    refine sq_store (o := 0) (vs := TCube.enc TCube.zero) (cs' := TCube.enc TCube.zero) hF hS rfl rfl (i := 0) rfl rfl rfl ps26 (TCube.enc_one _) (Nat.le_of_ble_eq_true rfl) rfl (fun W hS => ?_)
    refine sq_val (v_assign hF rfl) hF (by decide) (fun a hF => ?_)
    refine sq_nil ?_
    refine then_n ?_
    refine wp_ret ?_
    refine then_r ?_
    obtain rfl := Option.some.inj h
    exact ret2 hF rfl (rv_cell (cs := TCube.enc TCube.zero) hF rfl pa26 ps26 (hS.bc (i := 0) rfl)) (rv_tmp hF rfl) ⟨_, rfl, rfl, (hS.keep (List.nil_sublist _) (List.Sublist.refl _) trivial)⟩
  ·
    replace h := ifF he6 h
    refine wp_skip ?_
    refine then_n ?_
    refine wp_seq ?_
    refine wp_seq ?_
    refine wp_reg ?_
    refine sq_val (v_fieldAddr hF rfl pf26_0) hF (by decide) (fun a hF => ?_)
    refine sq_val (v_load (cs := A12u64.enc u0.Value) hF rfl pa24 ps24 (cells_sub (vs := A12u64.enc u0.Value) (hS.bc (i := 1) rfl) rfl rfl)) hF (by decide) (fun a hF => ?_)
    refine sq_val (v_move hF rfl) hF (by decide) (fun a hF => ?_)
    refine sq_val (v_move hF rfl) hF (by decide) (fun a hF => ?_)
    obtain ⟨x7, hx8, h⟩ := bindS h
    refine sq_call hF pc115 rfl (by decide) (ok_head_Set (hS.enter trivial) hx8) (fun v W hR a hF => ?_)
    obtain ⟨rfl, hT9⟩ := hR
    have hS := hS.grow hT9.below
    refine sq_val (v_move hF rfl) hF (by decide) (fun a hF => ?_)
    refine sq_val (v_extract hF rfl rfl) hF (by decide) (fun a hF => ?_)
    refine sq_val (v_extract hF rfl rfl) hF (by decide) (fun a hF => ?_)
    refine sq_alloc hF hS pz24 rfl (by decide) (fun b10 a W hF hS => ?_)
    refine sq_store (o := 0) (vs := A12u64.enc x7.1) (cs' := A12u64.enc x7.1) hF hS rfl rfl (i := 0) rfl rfl rfl ps24 (A12u64.enc_one _) (Nat.le_of_ble_eq_true rfl) rfl (fun W hS => ?_)
    refine sq_val (v_assign hF rfl) hF (by decide) (fun a hF => ?_)
    refine sq_nil ?_
    refine then_n ?_
    refine wp_seq ?_
    refine wp_reg ?_
    refine sq_val (v_move hF rfl) hF (by decide) (fun a hF => ?_)
    refine sq_val (v_neq hF rfl rfl) hF (by decide) (fun a hF => ?_)
    refine sq_nil ?_
    refine then_n ?_
    refine wp_if hF rfl (fun he11 => ?_) (fun he11 => ?_)
    ·
      replace h := ifT he11 h
      refine wp_seq ?_
      refine wp_reg ?_
      refine sq_val (v_build (parts := []) (out := TCube.enc TCube.zero) hF rfl rfl pz26 rfl pp26 rfl) hF (by decide) (fun a hF => ?_)
      refine sq_val (v_move hF rfl) hF (by decide) (fun a hF => ?_)
      refine sq_store (o := 0) (vs := TCube.enc TCube.zero) (cs' := TCube.enc TCube.zero) hF hS rfl rfl (i := 1) rfl rfl rfl ps26 (TCube.enc_one _) (Nat.le_of_ble_eq_true rfl) rfl (fun W hS => ?_)
      refine sq_val (v_assign hF rfl) hF (by decide) (fun a hF => ?_)
      refine sq_nil ?_
      refine then_n ?_
      refine wp_ret ?_
      refine then_r ?_
      obtain rfl := Option.some.inj h
      exact ret2 hF rfl (rv_cell (cs := TCube.enc TCube.zero) hF rfl pa26 ps26 (hS.bc (i := 1) rfl)) (rv_tmp hF rfl) ⟨_, rfl, rfl, (hS.keep (List.nil_sublist _) (List.Sublist.refl _) trivial)⟩
    ·
      replace h := ifF he11 h
      refine wp_skip ?_
      refine then_n ?_
      refine wp_seq ?_
      refine wp_reg ?_
      refine sq_val (v_move hF rfl) hF (by decide) (fun a hF => ?_)
      refine sq_val (v_move hF rfl) hF (by decide) (fun a hF => ?_)
      obtain ⟨x12, hx13, h⟩ := bindS h
      refine sq_call hF pc116 rfl (by decide) (ok_head_Mask (hS.enter trivial) hx13) (fun v W hR a hF => ?_)
      obtain ⟨rfl, hT14⟩ := hR
      have hS := hS.grow hT14.below
      refine sq_val (v_move hF rfl) hF (by decide) (fun a hF => ?_)
      refine sq_val (v_extract hF rfl rfl) hF (by decide) (fun a hF => ?_)
      refine sq_val (v_extract hF rfl rfl) hF (by decide) (fun a hF => ?_)
      refine sq_val (v_assign hF rfl) hF (by decide) (fun a hF => ?_)
      refine sq_val (v_assign hF rfl) hF (by decide) (fun a hF => ?_)
      refine sq_nil ?_
      refine then_n ?_
      refine wp_seq ?_
      refine wp_seq ?_
      refine wp_reg ?_
      refine sq_val (v_move hF rfl) hF (by decide) (fun a hF => ?_)
      refine sq_val (v_not hF rfl) hF (by decide) (fun a hF => ?_)
      refine sq_nil ?_
      refine then_n ?_
      refine wp_if hF rfl (fun he15 => ?_) (fun he15 => ?_)
      ·
        replace h := ifT he15 h
        refine wp_seq ?_
        refine wp_reg ?_
        refine sq_val (v_build (parts := []) (out := TCube.enc TCube.zero) hF rfl rfl pz26 rfl pp26 rfl) hF (by decide) (fun a hF => ?_)
        refine sq_store (o := 0) (vs := TCube.enc TCube.zero) (cs' := TCube.enc TCube.zero) hF hS rfl rfl (i := 1) rfl rfl rfl ps26 (TCube.enc_one _) (Nat.le_of_ble_eq_true rfl) rfl (fun W hS => ?_)
        refine sq_val (v_assign hF rfl) hF (by decide) (fun a hF => ?_)
        refine sq_nil ?_
        refine then_n ?_
        refine wp_ret ?_
        refine then_r ?_
        obtain rfl := Option.some.inj h
        exact ret2 hF rfl (rv_cell (cs := TCube.enc TCube.zero) hF rfl pa26 ps26 (hS.bc (i := 1) rfl)) (rv_tmp hF rfl) ⟨_, rfl, rfl, (hS.keep (List.nil_sublist _) (List.Sublist.refl _) trivial)⟩
      ·
        replace h := ifF he15 h
        refine wp_skip ?_
        refine then_n ?_
        refine wp_seq ?_
        refine wp_reg ?_
        refine sq_val (v_move hF rfl) hF (by decide) (fun a hF => ?_)
        refine sq_val (v_move hF rfl) hF (by decide) (fun a hF => ?_)
        refine sq_val (v_move hF rfl) hF (by decide) (fun a hF => ?_)
        refine sq_val (v_move hF rfl) hF (by decide) (fun a hF => ?_)
        refine sq_val (v_move hF rfl) hF (by decide) (fun a hF => ?_)
        refine sq_val (v_and hF rfl rfl) hF (by decide) (fun a hF => ?_)
        refine sq_val (v_fieldAddr hF rfl pf26_1) hF (by decide) (fun a hF => ?_)
        obtain ⟨hb16, h⟩ := ifS h
        refine sq_val (v_indexAddr hF rfl rfl par24 hb16.1 hb16.2) hF (by decide) (fun a hF => ?_)
        refine sq_store (o := 12 + u1.toNat * 1) (vs := [.int .u64 (x12.1)]) (cs' := TCube.enc (TCube.setCare u0 (u0.Care.upd u1 x12.1))) hF hS rfl (by simp only [add_add, add_plain, Nat.zero_add]) (i := 2) rfl rfl rfl ps22 (one1 rfl) (by have h0 := hb16.1; have h1 := hb16.2; simp only [TCube.enc, List.length_cons, List.length_nil]; omega) (TCube.set_Care u0 u1 _ hb16.1 hb16.2) (fun W hS => ?_)
        refine sq_val (v_fieldAddr hF rfl pf26_0) hF (by decide) (fun a hF => ?_)
        refine sq_val (v_indexAddr hF rfl rfl par24 hb16.1 hb16.2) hF (by decide) (fun a hF => ?_)
        refine sq_store (o := 0 + u1.toNat * 1) (vs := [.int .u64 ((bAnd .u64 u2 x12.1))]) (cs' := TCube.enc ({ Value := (u0.Value.upd u1 (bAnd .u64 u2 x12.1)), Care := (u0.Care.upd u1 x12.1) } : TCube)) hF hS rfl (by simp only [add_add, add_plain, Nat.zero_add]) (i := 2) rfl rfl rfl ps22 (one1 rfl) (by have h0 := hb16.1; have h1 := hb16.2; simp only [TCube.enc, List.length_cons, List.length_nil]; omega) (TCube.set_Value (TCube.setCare u0 (u0.Care.upd u1 x12.1)) u1 _ hb16.1 hb16.2) (fun W hS => ?_)
        refine sq_nil ?_
        refine then_n ?_
        refine wp_seq ?_
        refine wp_reg ?_
        refine sq_val (v_load (cs := TCube.enc ({ Value := (u0.Value.upd u1 (bAnd .u64 u2 x12.1)), Care := (u0.Care.upd u1 x12.1) } : TCube)) hF rfl pa26 ps26 (hS.bc (i := 2) rfl)) hF (by decide) (fun a hF => ?_)
        refine sq_store (o := 0) (vs := TCube.enc ({ Value := (u0.Value.upd u1 (bAnd .u64 u2 x12.1)), Care := (u0.Care.upd u1 x12.1) } : TCube)) (cs' := TCube.enc ({ Value := (u0.Value.upd u1 (bAnd .u64 u2 x12.1)), Care := (u0.Care.upd u1 x12.1) } : TCube)) hF hS rfl rfl (i := 1) rfl rfl rfl ps26 (TCube.enc_one _) (Nat.le_of_ble_eq_true rfl) rfl (fun W hS => ?_)
        refine sq_val (v_assign hF rfl) hF (by decide) (fun a hF => ?_)
        refine sq_nil ?_
        refine then_n ?_
        refine wp_ret ?_
        obtain rfl := Option.some.inj h
        exact ret2 hF rfl (rv_cell (cs := TCube.enc ({ Value := (u0.Value.upd u1 (bAnd .u64 u2 x12.1)), Care := (u0.Care.upd u1 x12.1) } : TCube)) hF rfl pa26 ps26 (hS.bc (i := 1) rfl)) (rv_tmp hF rfl) ⟨_, rfl, rfl, (hS.keep (List.nil_sublist _) (List.Sublist.refl _) trivial)⟩

theorem ok_law02_answers (k : Nat) {M : Nat → Prop} {w0 : World}  {o : Bool} (hS : St M w0 [] [] [] w0) (h : law02_answers k = some o) :
    Calls Try.prog 18 #[] w0 fun e W' => ∃ v, e = .returned v ∧ (v = .bool (o) ∧ St M w0 [] [] [] W') := by
  unfold law02_answers at h
  refine calls_start (args := []) Try.func18 rfl rfl (Nat.le_of_ble_eq_true rfl) (fun a hF => ?_)
  refine wp_seq ?_
  refine wp_reg ?_
  refine sq_val (v_assign hF rfl) hF (by decide) (fun a hF => ?_)
  refine sq_nil ?_
  refine then_n ?_
  refine wp_seq ?_
  refine wp_reg ?_
  obtain ⟨x1, hx2, h⟩ := bindS h
  refine sq_call hF pc63 rfl (by decide) (ok_cube_All (hS.enter trivial) hx2) (fun v W hR a hF => ?_)
  obtain ⟨rfl, hT3⟩ := hR
  have hS := hS.grow hT3.below
  obtain ⟨x4, hx5, h⟩ := bindS h
  refine sq_call hF pc62 rfl (by decide) (ok_cube_With k (hS.enter trivial) hx5) (fun v W hR a hF => ?_)
  obtain ⟨rfl, hT6⟩ := hR
  have hS := hS.grow hT6.below
  refine sq_val (v_move hF rfl) hF (by decide) (fun a hF => ?_)
  refine sq_val (v_extract hF rfl rfl) hF (by decide) (fun a hF => ?_)
  refine sq_val (v_extract hF rfl rfl) hF (by decide) (fun a hF => ?_)
  refine sq_alloc hF hS pz26 rfl (by decide) (fun b7 a W hF hS => ?_)
  refine sq_store (o := 0) (vs := TCube.enc x4.1) (cs' := TCube.enc x4.1) hF hS rfl rfl (i := 0) rfl rfl rfl ps26 (TCube.enc_one _) (Nat.le_of_ble_eq_true rfl) rfl (fun W hS => ?_)
  refine sq_val (v_assign hF rfl) hF (by decide) (fun a hF => ?_)
  refine sq_nil ?_
  refine then_n ?_
  refine wp_seq ?_
  refine wp_reg ?_
  refine sq_val (v_move hF rfl) hF (by decide) (fun a hF => ?_)
  refine sq_val (v_eql hF rfl rfl) hF (by decide) (fun a hF => ?_)
  refine sq_val (v_move hF rfl) hF (by decide) (fun a hF => ?_)
  obtain ⟨x9, h, hk11⟩ := bindS h
  refine sq_cut 4 (fun a W => FH 21 [(1, .pointer (some (⟨b7, 0, none⟩))), (14, .bool x9)] a ∧ St M w0 [⟨b7, TCube.enc x4.1, 26⟩] [] [] W) (fun a W hJ => ?_) ?_
  ·
    have h := hk11
    obtain ⟨hF, hS⟩ := hJ
    refine sq_val (v_move hF rfl) hF (by decide) (fun a hF => ?_)
    obtain ⟨x16, h, hk18⟩ := bindS h
    refine sq_cut 5 (fun a W => FH 21 [(20, .bool x16)] a ∧ St M w0 [⟨b7, TCube.enc x4.1, 26⟩] [] [] W) (fun a W hJ => ?_) ?_
    ·
      have h := hk18
      obtain ⟨hF, hS⟩ := hJ
      refine sq_val (v_assign hF rfl) hF (by decide) (fun a hF => ?_)
      refine sq_nil ?_
      refine then_n ?_
      refine wp_ret ?_
      obtain rfl := Option.some.inj h
      exact ret1 hF rfl (rv_tmp hF rfl) ⟨_, rfl, rfl, (hS.keep (List.nil_sublist _) (List.Sublist.refl _) trivial)⟩
    ·
      by_cases he15 : x9 = true
      ·
        replace h := ifT he15 h
        refine sq_yes hF rfl rfl he15 ?_
        refine sq_val (v_load (cs := TCube.enc x4.1) hF rfl pa26 ps26 (hS.bc (i := 0) rfl)) hF (by decide) (fun a hF => ?_)
        refine sq_yes hF rfl rfl he15 ?_
        refine sq_val (v_buildA (parts := []) (out := A12u64.enc A12u64.zero) hF rfl rfl pz24 rfl par24 rfl) hF (by decide) (fun a hF => ?_)
        refine sq_yes hF rfl rfl he15 ?_
        obtain ⟨x19, hx20, h⟩ := bindS h
        refine sq_call hF pc15 rfl (by decide) (ok_cube_Has k (hS.enter trivial) hx20) (fun v W hR a hF => ?_)
        obtain ⟨rfl, hT21⟩ := hR
        have hS := hS.grow hT21.below
        refine sq_yes hF rfl rfl he15 ?_
        refine sq_val (v_not hF rfl) hF (by decide) (fun a hF => ?_)
        refine sq_val (v_pick_t hF rfl he15 rfl) hF (by decide) (fun a hF => ?_)
        obtain rfl := Option.some.inj h
        exact sq_nil (then_j ⟨(hF.keep ⟨rfl, trivial⟩), hS⟩)
      ·
        have he15 : x9 = false := nB he15
        replace h := ifF he15 h
        refine sq_no hF rfl rfl he15 (by rintro x ⟨⟩; decide) (fun a hF => ?_)
        refine sq_no hF rfl rfl he15 (by rintro x ⟨⟩; decide) (fun a hF => ?_)
        refine sq_no hF rfl rfl he15 (by rintro x ⟨⟩; decide) (fun a hF => ?_)
        refine sq_no hF rfl rfl he15 (by rintro x ⟨⟩; decide) (fun a hF => ?_)
        refine sq_val (v_pick_f hF rfl he15 rfl) hF (by decide) (fun a hF => ?_)
        obtain rfl := Option.some.inj h
        exact sq_nil (then_j ⟨(hF.keep ⟨rfl, trivial⟩), hS⟩)
  ·
    by_cases he8 : (x4.2 == 0) = true
    ·
      replace h := ifT he8 h
      refine sq_yes hF rfl rfl he8 ?_
      refine sq_val (v_load (cs := TCube.enc x4.1) hF rfl pa26 ps26 (hS.bc (i := 0) rfl)) hF (by decide) (fun a hF => ?_)
      refine sq_yes hF rfl rfl he8 ?_
      refine sq_val (v_buildA (parts := [(6, .const (.int .u64 167838211))]) (out := A12u64.enc ((fun q => bif Nat.beq q.val 6 then 167838211 else 0) : Arr 12)) hF rfl rfl pz24 rfl par24 rfl) hF (by decide) (fun a hF => ?_)
      refine sq_yes hF rfl rfl he8 ?_
      obtain ⟨x12, hx13, h⟩ := bindS h
      refine sq_call hF pc15 rfl (by decide) (ok_cube_Has k (hS.enter trivial) hx13) (fun v W hR a hF => ?_)
      obtain ⟨rfl, hT14⟩ := hR
      have hS := hS.grow hT14.below
      refine sq_val (v_pick_t hF rfl he8 rfl) hF (by decide) (fun a hF => ?_)
      obtain rfl := Option.some.inj h
      exact sq_nil (then_j ⟨(hF.keep ⟨rfl, rfl, trivial⟩), hS⟩)
    ·
      have he8 : (x4.2 == 0) = false := nB he8
      replace h := ifF he8 h
      refine sq_no hF rfl rfl he8 (by rintro x ⟨⟩; decide) (fun a hF => ?_)
      refine sq_no hF rfl rfl he8 (by rintro x ⟨⟩; decide) (fun a hF => ?_)
      refine sq_no hF rfl rfl he8 (by rintro x ⟨⟩; decide) (fun a hF => ?_)
      refine sq_val (v_pick_f hF rfl he8 rfl) hF (by decide) (fun a hF => ?_)
      obtain rfl := Option.some.inj h
      exact sq_nil (then_j ⟨(hF.keep ⟨rfl, rfl, trivial⟩), hS⟩)

theorem ok_cube_Within (k : Nat) {M : Nat → Prop} {w0 : World} {u0 : TCube} {u1 : TCube} {o : Bool} (hS : St M w0 [] [] [] w0) (h : cube_Within k u0 u1 = some o) :
    Calls Try.prog 19 #[.agg (TCube.enc u0).toArray, .agg (TCube.enc u1).toArray] w0 fun e W' => ∃ v, e = .returned v ∧ (v = .bool (o) ∧ St M w0 [] [] [] W') := by
  unfold cube_Within at h
  refine calls_start (args := [.agg (TCube.enc u0).toArray, .agg (TCube.enc u1).toArray]) Try.func19 rfl rfl (Nat.le_of_ble_eq_true rfl) (fun a hF => ?_)
  refine wp_seq ?_
  refine wp_reg ?_
  refine sq_box hF hS rfl rfl (by decide) (fun b1 a W hF hS => ?_)
  refine sq_box hF hS rfl rfl (by decide) (fun b2 a W hF hS => ?_)
  refine sq_val (v_assign hF rfl) hF (by decide) (fun a hF => ?_)
  refine sq_nil ?_
  refine then_n ?_
  refine wp_seq ?_
  refine wp_reg ?_
  refine sq_val (v_load (cs := TCube.enc u0) hF rfl pa26 ps26 (hS.bc (i := 1) rfl)) hF (by decide) (fun a hF => ?_)
  refine sq_val (v_load (cs := TCube.enc u1) hF rfl pa26 ps26 (hS.bc (i := 0) rfl)) hF (by decide) (fun a hF => ?_)
  obtain ⟨x3, hx4, h⟩ := bindS h
  refine sq_call hF pc12 rfl (by decide) (ok_cube_Meet k (hS.enter trivial) hx4) (fun v W hR a hF => ?_)
  obtain ⟨rfl, hT5⟩ := hR
  have hS := hS.grow hT5.below
  refine sq_val (v_move hF rfl) hF (by decide) (fun a hF => ?_)
  refine sq_val (v_extract hF rfl rfl) hF (by decide) (fun a hF => ?_)
  refine sq_val (v_extract hF rfl rfl) hF (by decide) (fun a hF => ?_)
  refine sq_alloc hF hS pz26 rfl (by decide) (fun b6 a W hF hS => ?_)
  refine sq_store (o := 0) (vs := TCube.enc x3.1) (cs' := TCube.enc x3.1) hF hS rfl rfl (i := 0) rfl rfl rfl ps26 (TCube.enc_one _) (Nat.le_of_ble_eq_true rfl) rfl (fun W hS => ?_)
  refine sq_val (v_assign hF rfl) hF (by decide) (fun a hF => ?_)
  refine sq_nil ?_
  refine then_n ?_
  refine wp_seq ?_
  refine wp_reg ?_
  refine sq_val (v_move hF rfl) hF (by decide) (fun a hF => ?_)
  refine sq_val (v_move hF rfl) hF (by decide) (fun a hF => ?_)
  refine sq_cut 4 (fun a W => FH 19 [(18, .bool (x3.2 && (cellsEq (TCube.enc x3.1) (TCube.enc u0))))] a ∧ St M w0 [⟨b6, TCube.enc x3.1, 26⟩, ⟨b2, TCube.enc u1, 26⟩, ⟨b1, TCube.enc u0, 26⟩] [] [] W) (fun a W hJ => ?_) ?_
  ·
    obtain ⟨hF, hS⟩ := hJ
    refine sq_val (v_assign hF rfl) hF (by decide) (fun a hF => ?_)
    refine sq_nil ?_
    refine then_n ?_
    refine wp_ret ?_
    obtain rfl := Option.some.inj h
    exact ret1 hF rfl (rv_tmp hF rfl) ⟨_, rfl, rfl, (hS.keep (List.nil_sublist _) (List.Sublist.refl _) trivial)⟩
  ·
    by_cases he7 : x3.2 = true
    ·
      refine sq_yes hF rfl rfl he7 ?_
      refine sq_val (v_load (cs := TCube.enc x3.1) hF rfl pa26 ps26 (hS.bc (i := 0) rfl)) hF (by decide) (fun a hF => ?_)
      refine sq_yes hF rfl rfl he7 ?_
      refine sq_val (v_load (cs := TCube.enc u0) hF rfl pa26 ps26 (hS.bc (i := 2) rfl)) hF (by decide) (fun a hF => ?_)
      refine sq_yes hF rfl rfl he7 ?_
      refine sq_val (eq26 hF rfl rfl).1 hF (by decide) (fun a hF => ?_)
      refine sq_val (v_pick_t hF rfl he7 rfl) hF (by decide) (fun a hF => ?_)
      exact sq_nil (then_j ⟨(hF.keep ⟨(boolV (and_t he7)), trivial⟩), hS⟩)
    ·
      have he7 : x3.2 = false := nB he7
      refine sq_no hF rfl rfl he7 (by rintro x ⟨⟩; decide) (fun a hF => ?_)
      refine sq_no hF rfl rfl he7 (by rintro x ⟨⟩; decide) (fun a hF => ?_)
      refine sq_no hF rfl rfl he7 (by rintro x ⟨⟩; decide) (fun a hF => ?_)
      refine sq_val (v_pick_f hF rfl he7 rfl) hF (by decide) (fun a hF => ?_)
      exact sq_nil (then_j ⟨(hF.keep ⟨(boolV (and_f he7)), trivial⟩), hS⟩)
end Go.Proofs.Ytangebngeeamoaa
