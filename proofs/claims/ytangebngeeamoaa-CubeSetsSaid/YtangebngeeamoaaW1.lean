/- What calls of the Go functions come to. -/
import Derived.Test.YtangebngeeamoaaW0
set_option linter.unusedVariables false
set_option linter.unusedSimpArgs false
set_option maxRecDepth 100000
set_option maxHeartbeats 4000000
namespace Go.Proofs.Ytangebngeeamoaa
open Go.RowKit Go.Pod
theorem ok_ref01_Bits (k : Nat) {M : Nat → Prop} {w0 : World} {u0 : Int} {u1 : Int} {o : (List Bool)} (hS : St M w0 [] [] [] w0) (h : ref01_Bits k u0 u1 = some o) :
    Calls Try.prog 109 #[.int .u64 (u0), .int .i64 (u1)] w0 fun e W' => ∃ v, e = .returned v ∧ (∃ (A23 : Option Addr) (c24 : Nat), v = .slice A23 (o).length c24 ∧ St M w0 [] [⟨kBool, 4, A23, c24, o⟩] [] W') := by
  unfold ref01_Bits at h
  refine calls_start (args := [.int .u64 (u0), .int .i64 (u1)]) Try.func109 rfl rfl (Nat.le_of_ble_eq_true rfl) (fun a hF => ?_)
  refine wp_seq ?_
  refine wp_reg ?_
  refine sq_val (v_assign hF rfl) hF (by decide) (fun a hF => ?_)
  refine sq_nil ?_
  refine then_n ?_
  refine wp_seq ?_
  refine wp_reg ?_
  refine sq_val (v_assign hF rfl) hF (by decide) (fun a hF => ?_)
  refine sq_nil ?_
  refine then_n ?_
  refine wp_seq ?_
  refine wp_seq ?_
  refine wp_reg ?_
  refine sq_val (v_move hF rfl) hF (by decide) (fun a hF => ?_)
  refine sq_val (v_sub hF rfl rfl) hF (by decide) (fun a hF => ?_)
  refine sq_val (v_assign hF rfl) hF (by decide) (fun a hF => ?_)
  refine sq_nil ?_
  refine then_n ?_
  obtain ⟨o12, h, hk13⟩ := bindS h
  refine wp_join (fun a W => ∃ (x9 : List Bool) (A10 : Option Addr) (c11 : Nat), x9 = o12 ∧ FH 23 [(5, .slice A10 (x9).length c11)] a ∧ St M w0 [] [⟨kBool, 4, A10, c11, x9⟩] [] W) (fun a W hJ => ?_) ?_
  ·
    obtain ⟨x9, A10, c11, rfl, hF, hS⟩ := hJ
    have h := hk13
    refine then_n ?_
    refine wp_seq ?_
    refine wp_reg ?_
    refine sq_val (v_move hF rfl) hF (by decide) (fun a hF => ?_)
    refine sq_val (v_assign hF rfl) hF (by decide) (fun a hF => ?_)
    refine sq_nil ?_
    refine then_n ?_
    refine wp_ret ?_
    obtain rfl := Option.some.inj h
    exact ret1 hF rfl (rv_tmp hF rfl) ⟨_, rfl, A10, c11, rfl, hS⟩
  ·
    have hS := hS.addNil kBool 4
    refine wp_block ?_
    refine wp_loop_fuel (I := fun m a W => ∃ (x5 : List Bool) (x8 : Int) (A6 : Option Addr) (c7 : Nat), FH 23 [(0, .int .u64 (u0)), (5, .slice A6 (x5).length c7), (6, .int .i64 (x8))] a ∧ St M w0 [] [⟨kBool, 4, A6, c7, x5⟩] [] W ∧ (ref01_Bits.l0 k u0 m x5 x8) = some o12) ?_ (k := k) ⟨([]), (IntKind.i64.wrap (u1 - 1)), none, 0, (hF.keep ⟨rfl, rfl, rfl, trivial⟩), hS, h⟩
    rintro m14 a W ⟨x5, x8, A6, c7, hF, hS, h⟩
    cases m14 with
    | zero => cases h
    | succ m14 =>
      rw [ref01_Bits.l0] at h
      refine wp_seq ?_
      refine wp_seq ?_
      refine wp_reg ?_
      refine sq_val (v_move hF rfl) hF (by decide) (fun a hF => ?_)
      refine sq_val (v_geq hF rfl rfl) hF (by decide) (fun a hF => ?_)
      refine sq_nil ?_
      refine then_n ?_
      refine wp_if hF rfl (fun he15 => ?_) (fun he15 => ?_)
      ·
        replace h := ifT he15 h
        refine wp_skip ?_
        refine then_n ?_
        refine wp_seq ?_
        refine wp_block ?_
        refine wp_reg ?_
        refine sq_val (v_move hF rfl) hF (by decide) (fun a hF => ?_)
        refine sq_val (v_move hF rfl) hF (by decide) (fun a hF => ?_)
        refine sq_val (v_move hF rfl) hF (by decide) (fun a hF => ?_)
        refine sq_val (v_convI hF rfl pu3 pu137) hF (by decide) (fun a hF => ?_)
        obtain ⟨hb16, h⟩ := ifS h
        refine sq_val (v_shr hF rfl rfl hb16) hF (by decide) (fun a hF => ?_)
        refine sq_val (v_and hF rfl rfl) hF (by decide) (fun a hF => ?_)
        refine sq_val (v_eql hF rfl rfl) hF (by decide) (fun a hF => ?_)
        refine sq_buildSlice (κ := kBool) (xs := [.tmp 19]) (ys := [((bAnd .u64 (bShr .u64 u0 (IntKind.u64.wrap x8)) 1) == 1)]) hF hS rfl rfl rfl (Els.cons rfl (Els.nil _ _ _)) rfl psl116 pz4 rfl (by decide) (by decide) (by decide) (fun A17 c18 a W hF hS => ?_)
        obtain ⟨x19, hx20, h⟩ := bindS h
        refine sq_append (ys := ([((bAnd .u64 (bShr .u64 u0 (IntKind.u64.wrap x8)) 1) == 1)])) hF hS (i := 1) rfl rfl rfl (hS.rw_ (i := 0) rfl).src psl116 pb4 pz4 rfl (by decide) (by decide) hx20 (by decide) (fun A21 c22 a W hF hS => ?_)
        refine sq_val (v_assign hF rfl) hF (by decide) (fun a hF => ?_)
        refine sq_nil ?_
        refine blk_n ?_
        refine then_n ?_
        refine wp_reg ?_
        refine sq_val (v_move hF rfl) hF (by decide) (fun a hF => ?_)
        refine sq_val (v_sub hF rfl rfl) hF (by decide) (fun a hF => ?_)
        refine sq_val (v_assign hF rfl) hF (by decide) (fun a hF => ?_)
        refine sq_nil ?_
        exact then_j ⟨m14, Nat.lt_succ_self _, x19, (IntKind.i64.wrap (x8 - 1)), A21, c22, (hF.keep ⟨rfl, rfl, rfl, trivial⟩), (hS.keep (List.Sublist.refl _) (.cons _ (List.Sublist.refl _)) trivial), h⟩
      ·
        replace h := ifF he15 h
        refine wp_exit ?_
        refine then_x ?_
        refine then_x ?_
        refine blk_hit ?_
        obtain rfl := Option.some.inj h
        exact then_j ⟨x5, A6, c7, rfl, (hF.keep ⟨rfl, trivial⟩), hS⟩

theorem ok_ref01_Text (k : Nat) {M : Nat → Prop} {w0 : World} {u0 : TCube} {o : ByteArray × Bool} (hS : St M w0 [] [] [] w0) (h : ref01_Text k u0 = some o) :
    Calls Try.prog 55 #[.agg (TCube.enc u0).toArray] w0 fun e W' => ∃ v, e = .returned v ∧ (v = .tuple #[.string (o.1), .bool (o.2)] ∧ St M w0 [] [] [] W') := by
  unfold ref01_Text at h
  refine calls_start (args := [.agg (TCube.enc u0).toArray]) Try.func55 rfl rfl (Nat.le_of_ble_eq_true rfl) (fun a hF => ?_)
  refine wp_seq ?_
  refine wp_reg ?_
  refine sq_box hF hS rfl rfl (by decide) (fun b1 a W hF hS => ?_)
  refine sq_val (v_assign hF rfl) hF (by decide) (fun a hF => ?_)
  refine sq_val (v_assign hF rfl) hF (by decide) (fun a hF => ?_)
  refine sq_nil ?_
  refine then_n ?_
  refine wp_seq ?_
  refine wp_reg ?_
  refine sq_val (v_assign hF rfl) hF (by decide) (fun a hF => ?_)
  refine sq_nil ?_
  refine then_n ?_
  refine wp_seq ?_
  refine wp_reg ?_
  refine sq_val (v_fieldAddr hF rfl pf26_1) hF (by decide) (fun a hF => ?_)
  refine sq_val (v_load (cs := A12u64.enc u0.Care) hF rfl pa24 ps24 (cells_sub (vs := A12u64.enc u0.Care) (hS.bc (i := 0) rfl) rfl rfl)) hF (by decide) (fun a hF => ?_)
  obtain ⟨x2, hx3, h⟩ := bindS h
  refine sq_call hF pc61 rfl (by decide) (ok_ref01_Head k (hS.enter trivial) hx3) (fun v W hR a hF => ?_)
  obtain ⟨rfl, hT4⟩ := hR
  have hS := hS.grow hT4.below
  refine sq_val (v_assign hF rfl) hF (by decide) (fun a hF => ?_)
  refine sq_nil ?_
  refine then_n ?_
  refine wp_seq ?_
  refine wp_seq ?_
  refine wp_reg ?_
  refine sq_val (v_assign hF rfl) hF (by decide) (fun a hF => ?_)
  refine sq_nil ?_
  refine then_n ?_
  obtain ⟨o19, h, hk20⟩ := bindS h
  refine wp_join (fun a W => ∃ (x15 : List Int) (x18 : Bool) (A16 : Option Addr) (c17 : Nat), (x15, x18) = o19 ∧ FH 70 [(4, .slice A16 (x15).length c17), (5, .bool (x18))] a ∧ St M w0 [] [⟨(kInt .u8), 5, A16, c17, x15⟩] [] W) (fun a W hJ => ?_) ?_
  ·
    obtain ⟨x15, x18, A16, c17, rfl, hF, hS⟩ := hJ
    have h := hk20
    dsimp only at h
    refine then_n ?_
    refine wp_seq ?_
    refine wp_reg ?_
    refine sq_val (v_move hF rfl) hF (by decide) (fun a hF => ?_)
    refine sq_val (v_toStr hF rfl (hS.rw_ (i := 0) rfl).src pu82 pu5 pu9) hF (by decide) (fun a hF => ?_)
    refine sq_val (v_move hF rfl) hF (by decide) (fun a hF => ?_)
    refine sq_val (v_assign hF rfl) hF (by decide) (fun a hF => ?_)
    refine sq_val (v_assign hF rfl) hF (by decide) (fun a hF => ?_)
    refine sq_nil ?_
    refine then_n ?_
    refine wp_ret ?_
    obtain rfl := Option.some.inj h
    exact ret2 hF rfl (rv_tmp hF rfl) (rv_tmp hF rfl) ⟨_, rfl, rfl, (hS.keep (List.Sublist.refl _) (List.nil_sublist _) trivial)⟩
  ·
    have hS := hS.addNil (kInt .u8) 5
    refine wp_block ?_
    refine wp_loop_fuel (I := fun m a W => ∃ (x10 : List Int) (x13 : Bool) (x14 : Int) (A11 : Option Addr) (c12 : Nat), FH 70 [(1, .pointer (some (⟨b1, 0, none⟩))), (4, .slice A11 (x10).length c12), (5, .bool (x13)), (6, .int .i64 (x14))] a ∧ St M w0 [⟨b1, TCube.enc u0, 26⟩] [⟨(kInt .u8), 5, A11, c12, x10⟩] [] W ∧ (ref01_Text.l0 k u0 m x10 x13 x14) = some o19) ?_ (k := k) ⟨([]), x2, 0, none, 0, (hF.keep ⟨rfl, rfl, rfl, rfl, trivial⟩), hS, h⟩
    rintro m21 a W ⟨x10, x13, x14, A11, c12, hF, hS, h⟩
    cases m21 with
    | zero => cases h
    | succ m21 =>
      rw [ref01_Text.l0] at h
      refine wp_seq ?_
      refine wp_seq ?_
      refine wp_reg ?_
      refine sq_val (v_move hF rfl) hF (by decide) (fun a hF => ?_)
      refine sq_val (v_lss hF rfl rfl) hF (by decide) (fun a hF => ?_)
      refine sq_nil ?_
      refine then_n ?_
      refine wp_if hF rfl (fun he22 => ?_) (fun he22 => ?_)
      ·
        replace h := ifT he22 h
        refine wp_skip ?_
        refine then_n ?_
        refine wp_seq ?_
        refine wp_block ?_
        refine wp_seq ?_
        refine wp_seq ?_
        refine wp_quiet rfl (by kernel_rfl) hS ?_
        refine qt_val (fun W hC => (v_move hF rfl)) hF (by decide) (fun a hF => ?_)
        refine qt_val (fun W hC => (v_fieldAddr hF rfl pf26_0)) hF (by decide) (fun a hF => ?_)
        obtain ⟨hb23, h⟩ := ifS h
        refine qt_val (fun W hC => (v_indexAddr hF rfl rfl par24 hb23.1 hb23.2)) hF (by decide) (fun a hF => ?_)
        refine qt_val (fun W hC => (v_load1 hF rfl pa22 (cells_sub (vs := [.int .u64 ((u0.Value.at x14))]) (hC.2.bc (i := 0) rfl) (add_add _ _ _) (TCube.get_Value u0 x14 hb23.1 hb23.2)))) hF (by decide) (fun a hF => ?_)
        refine qt_val (fun W hC => (v_move hF rfl)) hF (by decide) (fun a hF => ?_)
        refine qt_val (fun W hC => (v_fieldAddr hF rfl pf26_1)) hF (by decide) (fun a hF => ?_)
        refine qt_val (fun W hC => (v_indexAddr hF rfl rfl par24 hb23.1 hb23.2)) hF (by decide) (fun a hF => ?_)
        refine qt_val (fun W hC => (v_load1 hF rfl pa22 (cells_sub (vs := [.int .u64 ((u0.Care.at x14))]) (hC.2.bc (i := 0) rfl) (add_add _ _ _) (TCube.get_Care u0 x14 hb23.1 hb23.2)))) hF (by decide) (fun a hF => ?_)
        refine qt_val (fun W hC => (v_andNot hF rfl rfl)) hF (by decide) (fun a hF => ?_)
        refine qt_val (fun W hC => (v_neq hF rfl rfl)) hF (by decide) (fun a hF => ?_)
        refine qt_nil ?_
        intro W hC
        have hS := hC.2
        refine then_n ?_
        obtain ⟨o25, h, hk26⟩ := bindS h
        refine wp_join (fun a W => ∃ (x24 : Bool), x24 = o25 ∧ FH 70 [(1, .pointer (some (⟨b1, 0, none⟩))), (4, .slice A11 (x10).length c12), (5, .bool (x24)), (6, .int .i64 (x14))] a ∧ St M w0 [⟨b1, TCube.enc u0, 26⟩] [⟨(kInt .u8), 5, A11, c12, x10⟩] [] W) (fun a W hJ => ?_) ?_
        ·
          obtain ⟨x24, rfl, hF, hS⟩ := hJ
          have h := hk26
          refine then_n ?_
          refine wp_seq ?_
          refine wp_drawn (QC M w0 [⟨b1, TCube.enc u0, 26⟩] [⟨(kInt .u8), 5, A11, c12, x10⟩] []) (fun _ => false) rfl hS (fun W hB0 hR0 => ?_)
          have hS := hR0
          have hQC : (QC M w0 [⟨b1, TCube.enc u0, 26⟩] [⟨(kInt .u8), 5, A11, c12, x10⟩] []) W W := ⟨Below.refl _ _, hS⟩
          refine e_val (listed' := #[true, false, false, false, false, false, false, false, false, false, false, false, false, false, false, false]) 0 rfl (by kernel_rfl) (by kernel_rfl) (fun _ _ _ h => h) (fun W => (v_move hF rfl)) hF (by decide) (fun a hF => ?_)
          refine e_val (listed' := #[true, true, false, false, false, false, false, false, false, false, false, false, false, false, false, false]) 1 rfl (by kernel_rfl) (by kernel_rfl) (fun _ _ _ h => h) (fun W => (v_fieldAddr hF rfl pf26_0)) hF (by decide) (fun a hF => ?_)
          refine e_val (listed' := #[true, true, true, false, false, false, false, false, false, false, false, false, false, false, false, false]) 2 rfl (by kernel_rfl) (by kernel_rfl) (fun _ _ _ h => h) (fun W => (v_indexAddr hF rfl rfl par24 hb23.1 hb23.2)) hF (by decide) (fun a hF => ?_)
          refine e_valS (listed' := #[true, true, true, true, false, false, false, false, false, false, false, false, false, false, false, false]) 3 rfl (by kernel_rfl) (by kernel_rfl) (fun _ _ _ h => h) (fun W hC => (v_load1 hF rfl pa22 (cells_sub (vs := [.int .u64 ((u0.Value.at x14))]) (hC.2.bc (i := 0) rfl) (add_add _ _ _) (TCube.get_Value u0 x14 hb23.1 hb23.2)))) hQC (by kernel_rfl) hF (by decide) (fun a hF => ?_)
          refine e_val (listed' := #[true, true, true, true, true, false, false, false, false, false, false, false, false, false, false, false]) 4 rfl (by kernel_rfl) (by kernel_rfl) (fun _ _ _ h => h) (fun W => (v_move hF rfl)) hF (by decide) (fun a hF => ?_)
          refine e_val (listed' := #[true, true, true, true, true, false, false, true, false, false, false, false, false, false, false, false]) 7 rfl (by kernel_rfl) (by kernel_rfl) (fun _ _ _ h => h) (fun W => (v_move hF rfl)) hF (by decide) (fun a hF => ?_)
          refine e_val (listed' := #[true, true, true, true, true, false, false, true, true, false, false, false, false, false, false, false]) 8 rfl (by kernel_rfl) (by kernel_rfl) (fun _ _ _ h => h) (fun W => (v_fieldAddr hF rfl pf26_1)) hF (by decide) (fun a hF => ?_)
          refine e_val (listed' := #[true, true, true, true, true, false, false, true, true, true, false, false, false, false, false, false]) 9 rfl (by kernel_rfl) (by kernel_rfl) (fun _ _ _ h => h) (fun W => (v_indexAddr hF rfl rfl par24 hb23.1 hb23.2)) hF (by decide) (fun a hF => ?_)
          refine e_valS (listed' := #[true, true, true, true, true, false, false, true, true, true, true, false, false, false, false, false]) 10 rfl (by kernel_rfl) (by kernel_rfl) (fun _ _ _ h => h) (fun W hC => (v_load1 hF rfl pa22 (cells_sub (vs := [.int .u64 ((u0.Care.at x14))]) (hC.2.bc (i := 0) rfl) (add_add _ _ _) (TCube.get_Care u0 x14 hb23.1 hb23.2)))) hQC (by kernel_rfl) hF (by decide) (fun a hF => ?_)
          refine e_val (listed' := #[true, true, true, true, true, false, false, true, true, true, true, true, false, false, false, false]) 11 rfl (by kernel_rfl) (by kernel_rfl) (fun _ _ _ h => h) (fun W => (v_move hF rfl)) hF (by decide) (fun a hF => ?_)
          refine e_one (listed' := #[true, true, true, true, true, true, false, true, true, true, true, true, false, false, false, false]) 5 rfl (by kernel_rfl) (by kernel_rfl) ?_
          obtain ⟨x27, hx28, h⟩ := bindS h
          refine sq_call hF pc110 rfl (by decide) (ok_ref01_Size (hS.enter trivial) hx28) (fun v W hR a hF => ?_)
          obtain ⟨rfl, hT29⟩ := hR
          have hS := hS.grow hT29.below
          refine sq_nil (then_j ⟨?_, ?_⟩)
          · exact fun hQ0 _ => hQ0.next hT29.below
          ·
            have hQC := hQC.next hT29.below
            refine e_one (listed' := #[true, true, true, true, true, true, true, true, true, true, true, true, false, false, false, false]) 6 rfl (by kernel_rfl) (by kernel_rfl) ?_
            obtain ⟨x30, hx31, h⟩ := bindS h
            refine sq_call hF pc109 rfl (by decide) (ok_ref01_Bits k (hS.enter trivial) hx31) (fun v W hR a hF => ?_)
            obtain ⟨A32, c33, rfl, hT34⟩ := hR
            have hS := hS.join hT34
            refine sq_nil (then_j ⟨?_, ?_⟩)
            · exact fun hQ0 _ => hQ0.next hT34.below
            ·
              have hQC := hQC.next hT34.below
              refine e_one (listed' := #[true, true, true, true, true, true, true, true, true, true, true, true, true, false, false, false]) 12 rfl (by kernel_rfl) (by kernel_rfl) ?_
              obtain ⟨x35, hx36, h⟩ := bindS h
              refine sq_call hF pc110 rfl (by decide) (ok_ref01_Size (hS.enter trivial) hx36) (fun v W hR a hF => ?_)
              obtain ⟨rfl, hT37⟩ := hR
              have hS := hS.grow hT37.below
              refine sq_nil (then_j ⟨?_, ?_⟩)
              · exact fun hQ0 _ => hQ0.next hT37.below
              ·
                have hQC := hQC.next hT37.below
                refine e_one (listed' := #[true, true, true, true, true, true, true, true, true, true, true, true, true, true, false, false]) 13 rfl (by kernel_rfl) (by kernel_rfl) ?_
                obtain ⟨x38, hx39, h⟩ := bindS h
                refine sq_call hF pc109 rfl (by decide) (ok_ref01_Bits k (hS.enter trivial) hx39) (fun v W hR a hF => ?_)
                obtain ⟨A40, c41, rfl, hT42⟩ := hR
                have hS := hS.join hT42
                refine sq_nil (then_j ⟨?_, ?_⟩)
                · exact fun hQ0 _ => hQ0.next hT42.below
                ·
                  have hQC := hQC.next hT42.below
                  refine e_val (listed' := #[true, true, true, true, true, true, true, true, true, true, true, true, true, true, true, false]) 14 rfl (by kernel_rfl) (by kernel_rfl) (fun _ _ _ h => h) (fun W => (v_assign hF rfl)) hF (by decide) (fun a hF => ?_)
                  refine e_val (listed' := #[true, true, true, true, true, true, true, true, true, true, true, true, true, true, true, true]) 15 rfl (by kernel_rfl) (by kernel_rfl) (fun _ _ _ h => h) (fun W => (v_assign hF rfl)) hF (by decide) (fun a hF => ?_)
                  refine e_done (by kernel_rfl) ?_ _
                  refine then_n ?_
                  refine wp_seq ?_
                  refine wp_reg ?_
                  refine sq_val (v_assign hF rfl) hF (by decide) (fun a hF => ?_)
                  refine sq_nil ?_
                  refine then_n ?_
                  obtain ⟨o54, h, hk55⟩ := bindS h
                  refine wp_join (fun a W => ∃ (x51 : List Int) (A52 : Option Addr) (c53 : Nat), x51 = o54 ∧ FH 70 [(1, .pointer (some (⟨b1, 0, none⟩))), (4, .slice A52 (x51).length c53), (5, .bool (x24)), (6, .int .i64 (x14))] a ∧ St M w0 [⟨b1, TCube.enc u0, 26⟩] [⟨(kInt .u8), 5, A52, c53, x51⟩] [] W) (fun a W hJ => ?_) ?_
                  ·
                    obtain ⟨x51, A52, c53, rfl, hF, hS⟩ := hJ
                    have h := hk55
                    refine blk_n ?_
                    refine then_n ?_
                    refine wp_reg ?_
                    refine sq_val (v_move hF rfl) hF (by decide) (fun a hF => ?_)
                    refine sq_val (v_add hF rfl rfl) hF (by decide) (fun a hF => ?_)
                    refine sq_val (v_assign hF rfl) hF (by decide) (fun a hF => ?_)
                    refine sq_nil ?_
                    exact then_j ⟨m21, Nat.lt_succ_self _, x51, x24, (IntKind.i64.wrap (x14 + 1)), A52, c53, (hF.keep ⟨rfl, rfl, rfl, rfl, trivial⟩), hS, h⟩
                  ·
                    have hS := hS.perm (List.Perm.refl _) (.trans (.cons _ (.swap _ _ _)) (.trans (.swap _ _ _) (List.Perm.refl _)))
                    refine wp_block ?_
                    refine wp_loop_fuel (I := fun m a W => ∃ (x47 : List Int) (x50 : Int) (A48 : Option Addr) (c49 : Nat), FH 70 [(1, .pointer (some (⟨b1, 0, none⟩))), (4, .slice A48 (x47).length c49), (5, .bool (x24)), (6, .int .i64 (x14)), (7, .slice A32 (x30).length c33), (8, .slice A40 (x38).length c41), (9, .int .i64 (x50))] a ∧ St M w0 [⟨b1, TCube.enc u0, 26⟩] [⟨(kInt .u8), 5, A48, c49, x47⟩, ⟨kBool, 4, A40, c41, x38⟩, ⟨kBool, 4, A32, c33, x30⟩] [] W ∧ (ref01_Text.l1 k x30 x38 m x47 x50) = some o54) ?_ (k := k) ⟨x10, 0, A11, c12, (hF.keep ⟨rfl, rfl, rfl, rfl, rfl, rfl, rfl, trivial⟩), hS, h⟩
                    rintro m56 a W ⟨x47, x50, A48, c49, hF, hS, h⟩
                    cases m56 with
                    | zero => cases h
                    | succ m56 =>
                      rw [ref01_Text.l1] at h
                      refine wp_seq ?_
                      refine wp_seq ?_
                      refine wp_reg ?_
                      refine sq_val (v_move hF rfl) hF (by decide) (fun a hF => ?_)
                      refine sq_val (v_move hF rfl) hF (by decide) (fun a hF => ?_)
                      refine sq_val (v_len hF rfl pu116) hF (by decide) (fun a hF => ?_)
                      refine sq_val (v_lss hF rfl rfl) hF (by decide) (fun a hF => ?_)
                      refine sq_nil ?_
                      refine then_n ?_
                      refine wp_if hF rfl (fun he57 => ?_) (fun he57 => ?_)
                      ·
                        replace h := ifT he57 h
                        refine wp_skip ?_
                        refine then_n ?_
                        refine wp_seq ?_
                        obtain ⟨o61, h, hk62⟩ := bindS h
                        refine wp_join (fun a W => ∃ (x58 : List Int) (A59 : Option Addr) (c60 : Nat), x58 = o61 ∧ FH 70 [(1, .pointer (some (⟨b1, 0, none⟩))), (4, .slice A59 (x58).length c60), (5, .bool (x24)), (6, .int .i64 (x14)), (7, .slice A32 (x30).length c33), (8, .slice A40 (x38).length c41), (9, .int .i64 (x50))] a ∧ St M w0 [⟨b1, TCube.enc u0, 26⟩] [⟨(kInt .u8), 5, A59, c60, x58⟩, ⟨kBool, 4, A40, c41, x38⟩, ⟨kBool, 4, A32, c33, x30⟩] [] W) (fun a W hJ => ?_) ?_
                        ·
                          obtain ⟨x58, A59, c60, rfl, hF, hS⟩ := hJ
                          have h := hk62
                          refine then_n ?_
                          refine wp_reg ?_
                          refine sq_val (v_move hF rfl) hF (by decide) (fun a hF => ?_)
                          refine sq_val (v_add hF rfl rfl) hF (by decide) (fun a hF => ?_)
                          refine sq_val (v_assign hF rfl) hF (by decide) (fun a hF => ?_)
                          refine sq_nil ?_
                          exact then_j ⟨m56, Nat.lt_succ_self _, x58, (IntKind.i64.wrap (x50 + 1)), A59, c60, (hF.keep ⟨rfl, rfl, rfl, rfl, rfl, rfl, rfl, trivial⟩), hS, h⟩
                        ·
                          refine wp_block ?_
                          obtain ⟨o66, h, hk67⟩ := bindS h
                          refine wp_join (fun a W => ∃ (x63 : List Int) (A64 : Option Addr) (c65 : Nat), x63 = o66 ∧ FH 70 [(1, .pointer (some (⟨b1, 0, none⟩))), (4, .slice A64 (x63).length c65), (5, .bool (x24)), (6, .int .i64 (x14)), (7, .slice A32 (x30).length c33), (8, .slice A40 (x38).length c41), (9, .int .i64 (x50))] a ∧ St M w0 [⟨b1, TCube.enc u0, 26⟩] [⟨(kInt .u8), 5, A64, c65, x63⟩, ⟨kBool, 4, A40, c41, x38⟩, ⟨kBool, 4, A32, c33, x30⟩] [] W) (fun a W hJ => ?_) ?_
                          ·
                            obtain ⟨x63, A64, c65, rfl, hF, hS⟩ := hJ
                            have h := hk67
                            refine blk_n ?_
                            obtain rfl := Option.some.inj h
                            exact then_j ⟨x63, A64, c65, rfl, (hF.keep ⟨rfl, rfl, rfl, rfl, rfl, rfl, rfl, trivial⟩), hS⟩
                          ·
                            refine wp_block ?_
                            refine wp_seq ?_
                            refine wp_reg ?_
                            refine sq_val (v_move hF rfl) hF (by decide) (fun a hF => ?_)
                            refine sq_val (v_move hF rfl) hF (by decide) (fun a hF => ?_)
                            obtain ⟨x68, hx69, h⟩ := bindS h
                            obtain ⟨p70, cs71, hA72, hc74, hr75⟩ := Row.ok.at (hS.rw_ (i := 1) rfl) hx69
                            obtain rfl : cs71 = [.bool (x68)] := hr75
                            refine sq_val (v_idx hF rfl hA72 rfl psl116 hx69) hF (by decide) (fun a hF => ?_)
                            refine sq_val (v_load1 hF rfl pa4 hc74) hF (by decide) (fun a hF => ?_)
                            refine sq_val (v_not hF rfl) hF (by decide) (fun a hF => ?_)
                            refine sq_val (v_assign hF rfl) hF (by decide) (fun a hF => ?_)
                            refine sq_nil ?_
                            refine then_n ?_
                            obtain ⟨o79, h, hk80⟩ := bindS h
                            refine wp_join (fun a W => ∃ (x76 : List Int) (A77 : Option Addr) (c78 : Nat), x76 = o79 ∧ FH 70 [(1, .pointer (some (⟨b1, 0, none⟩))), (4, .slice A77 (x76).length c78), (5, .bool (x24)), (6, .int .i64 (x14)), (7, .slice A32 (x30).length c33), (8, .slice A40 (x38).length c41), (9, .int .i64 (x50))] a ∧ St M w0 [⟨b1, TCube.enc u0, 26⟩] [⟨(kInt .u8), 5, A77, c78, x76⟩, ⟨kBool, 4, A40, c41, x38⟩, ⟨kBool, 4, A32, c33, x30⟩] [] W) (fun a W hJ => ?_) ?_
                            ·
                              obtain ⟨x76, A77, c78, rfl, hF, hS⟩ := hJ
                              have h := hk80
                              refine blk_n ?_
                              obtain rfl := Option.some.inj h
                              exact then_j ⟨x76, A77, c78, rfl, (hF.keep ⟨rfl, rfl, rfl, rfl, rfl, rfl, rfl, trivial⟩), hS⟩
                            ·
                              refine wp_if hF rfl (fun he81 => ?_) (fun he81 => ?_)
                              ·
                                replace h := ifT he81 h
                                refine wp_reg ?_
                                refine sq_val (v_move hF rfl) hF (by decide) (fun a hF => ?_)
                                refine sq_buildSlice (κ := (kInt .u8)) (xs := [.const (.int .u8 120)]) (ys := [120]) hF hS rfl rfl rfl (Els.cons rfl (Els.nil _ _ _)) rfl psl82 pz5 rfl (by decide) (by decide) (by decide) (fun A82 c83 a W hF hS => ?_)
                                obtain ⟨x84, hx85, h⟩ := bindS h
                                refine sq_append (ys := ([120])) hF hS (i := 1) rfl rfl rfl (hS.rw_ (i := 0) rfl).src psl82 pb5 pz5 rfl (by decide) (by decide) hx85 (by decide) (fun A86 c87 a W hF hS => ?_)
                                refine sq_val (v_assign hF rfl) hF (by decide) (fun a hF => ?_)
                                refine sq_nil ?_
                                obtain rfl := Option.some.inj h
                                exact then_j ⟨x84, A86, c87, rfl, (hF.keep ⟨rfl, rfl, rfl, rfl, rfl, rfl, rfl, trivial⟩), (hS.keep (List.Sublist.refl _) (.cons _ (List.Sublist.refl _)) trivial)⟩
                              ·
                                replace h := ifF he81 h
                                refine wp_seq ?_
                                refine wp_reg ?_
                                refine sq_val (v_move hF rfl) hF (by decide) (fun a hF => ?_)
                                refine sq_val (v_move hF rfl) hF (by decide) (fun a hF => ?_)
                                obtain ⟨x88, hx89, h⟩ := bindS h
                                obtain ⟨p90, cs91, hA92, hc94, hr95⟩ := Row.ok.at (hS.rw_ (i := 2) rfl) hx89
                                obtain rfl : cs91 = [.bool (x88)] := hr95
                                refine sq_val (v_idx hF rfl hA92 rfl psl116 hx89) hF (by decide) (fun a hF => ?_)
                                refine sq_val (v_load1 hF rfl pa4 hc94) hF (by decide) (fun a hF => ?_)
                                refine sq_val (v_assign hF rfl) hF (by decide) (fun a hF => ?_)
                                refine sq_nil ?_
                                refine then_n ?_
                                obtain ⟨o99, h, hk100⟩ := bindS h
                                refine wp_join (fun a W => ∃ (x96 : List Int) (A97 : Option Addr) (c98 : Nat), x96 = o99 ∧ FH 70 [(1, .pointer (some (⟨b1, 0, none⟩))), (4, .slice A97 (x96).length c98), (5, .bool (x24)), (6, .int .i64 (x14)), (7, .slice A32 (x30).length c33), (8, .slice A40 (x38).length c41), (9, .int .i64 (x50))] a ∧ St M w0 [⟨b1, TCube.enc u0, 26⟩] [⟨(kInt .u8), 5, A97, c98, x96⟩, ⟨kBool, 4, A40, c41, x38⟩, ⟨kBool, 4, A32, c33, x30⟩] [] W) (fun a W hJ => ?_) ?_
                                ·
                                  obtain ⟨x96, A97, c98, rfl, hF, hS⟩ := hJ
                                  have h := hk100
                                  obtain rfl := Option.some.inj h
                                  exact then_j ⟨x96, A97, c98, rfl, (hF.keep ⟨rfl, rfl, rfl, rfl, rfl, rfl, rfl, trivial⟩), hS⟩
                                ·
                                  refine wp_if hF rfl (fun he101 => ?_) (fun he101 => ?_)
                                  ·
                                    replace h := ifT he101 h
                                    refine wp_reg ?_
                                    refine sq_val (v_move hF rfl) hF (by decide) (fun a hF => ?_)
                                    refine sq_buildSlice (κ := (kInt .u8)) (xs := [.const (.int .u8 49)]) (ys := [49]) hF hS rfl rfl rfl (Els.cons rfl (Els.nil _ _ _)) rfl psl82 pz5 rfl (by decide) (by decide) (by decide) (fun A102 c103 a W hF hS => ?_)
                                    obtain ⟨x104, hx105, h⟩ := bindS h
                                    refine sq_append (ys := ([49])) hF hS (i := 1) rfl rfl rfl (hS.rw_ (i := 0) rfl).src psl82 pb5 pz5 rfl (by decide) (by decide) hx105 (by decide) (fun A106 c107 a W hF hS => ?_)
                                    refine sq_val (v_assign hF rfl) hF (by decide) (fun a hF => ?_)
                                    refine sq_nil ?_
                                    obtain rfl := Option.some.inj h
                                    exact then_j ⟨x104, A106, c107, rfl, (hF.keep ⟨rfl, rfl, rfl, rfl, rfl, rfl, rfl, trivial⟩), (hS.keep (List.Sublist.refl _) (.cons _ (List.Sublist.refl _)) trivial)⟩
                                  ·
                                    replace h := ifF he101 h
                                    refine wp_reg ?_
                                    refine sq_val (v_move hF rfl) hF (by decide) (fun a hF => ?_)
                                    refine sq_buildSlice (κ := (kInt .u8)) (xs := [.const (.int .u8 48)]) (ys := [48]) hF hS rfl rfl rfl (Els.cons rfl (Els.nil _ _ _)) rfl psl82 pz5 rfl (by decide) (by decide) (by decide) (fun A108 c109 a W hF hS => ?_)
                                    obtain ⟨x110, hx111, h⟩ := bindS h
                                    refine sq_append (ys := ([48])) hF hS (i := 1) rfl rfl rfl (hS.rw_ (i := 0) rfl).src psl82 pb5 pz5 rfl (by decide) (by decide) hx111 (by decide) (fun A112 c113 a W hF hS => ?_)
                                    refine sq_val (v_assign hF rfl) hF (by decide) (fun a hF => ?_)
                                    refine sq_nil ?_
                                    obtain rfl := Option.some.inj h
                                    exact then_j ⟨x110, A112, c113, rfl, (hF.keep ⟨rfl, rfl, rfl, rfl, rfl, rfl, rfl, trivial⟩), (hS.keep (List.Sublist.refl _) (.cons _ (List.Sublist.refl _)) trivial)⟩
                      ·
                        replace h := ifF he57 h
                        refine wp_exit ?_
                        refine then_x ?_
                        refine then_x ?_
                        refine blk_hit ?_
                        obtain rfl := Option.some.inj h
                        exact then_j ⟨x47, A48, c49, rfl, (hF.keep ⟨rfl, rfl, rfl, rfl, trivial⟩), (hS.keep (List.Sublist.refl _) (.cons_cons _ (List.nil_sublist _)) trivial)⟩
        ·
          refine wp_if hF rfl (fun he114 => ?_) (fun he114 => ?_)
          ·
            replace h := ifT he114 h
            refine wp_reg ?_
            refine sq_val (v_assign hF rfl) hF (by decide) (fun a hF => ?_)
            refine sq_nil ?_
            obtain rfl := Option.some.inj h
            exact then_j ⟨false, rfl, (hF.keep ⟨rfl, rfl, rfl, rfl, trivial⟩), hS⟩
          ·
            replace h := ifF he114 h
            refine wp_skip ?_
            obtain rfl := Option.some.inj h
            exact then_j ⟨x13, rfl, (hF.keep ⟨rfl, rfl, rfl, rfl, trivial⟩), hS⟩
      ·
        replace h := ifF he22 h
        refine wp_exit ?_
        refine then_x ?_
        refine then_x ?_
        refine blk_hit ?_
        obtain rfl := Option.some.inj h
        exact then_j ⟨x10, x13, A11, c12, rfl, (hF.keep ⟨rfl, rfl, trivial⟩), (hS.keep (List.nil_sublist _) (List.Sublist.refl _) trivial)⟩

theorem ok_ref01_From (k : Nat) {M : Nat → Prop} {w0 : World} {u0 : ByteArray} {o : TCube} (hS : St M w0 [] [] [] w0) (h : ref01_From k u0 = some o) :
    Calls Try.prog 56 #[.string (u0)] w0 fun e W' => ∃ v, e = .returned v ∧ (v = .agg (TCube.enc o).toArray ∧ St M w0 [] [] [] W') := by
  unfold ref01_From at h
  refine calls_start (args := [.string (u0)]) Try.func56 rfl rfl (Nat.le_of_ble_eq_true rfl) (fun a hF => ?_)
  refine wp_seq ?_
  refine wp_reg ?_
  refine sq_alloc hF hS pz26 rfl (by decide) (fun b1 a W hF hS => ?_)
  refine sq_nil ?_
  refine then_n ?_
  refine wp_seq ?_
  refine wp_reg ?_
  refine sq_alloc hF hS pz26 rfl (by decide) (fun b2 a W hF hS => ?_)
  refine sq_nil ?_
  refine then_n ?_
  refine wp_seq ?_
  refine wp_reg ?_
  refine sq_val (v_assign hF rfl) hF (by decide) (fun a hF => ?_)
  refine sq_nil ?_
  refine then_n ?_
  refine wp_seq ?_
  refine wp_seq ?_
  refine wp_reg ?_
  refine sq_val (v_assign hF rfl) hF (by decide) (fun a hF => ?_)
  refine sq_nil ?_
  refine then_n ?_
  obtain ⟨o12, h, hk13⟩ := bindS h
  refine wp_join (fun a W => ∃ (x11 : TCube), x11 = o12 ∧ FH 58 [(2, .pointer (some (⟨b1, 0, none⟩))), (3, .pointer (some (⟨b2, 0, none⟩)))] a ∧ St M w0 [⟨b2, TCube.enc x11, 26⟩, ⟨b1, TCube.enc TCube.zero, 26⟩] [] [] W) (fun a W hJ => ?_) ?_
  ·
    obtain ⟨x11, rfl, hF, hS⟩ := hJ
    have h := hk13
    refine then_n ?_
    refine wp_seq ?_
    refine wp_reg ?_
    refine sq_val (v_load (cs := TCube.enc x11) hF rfl pa26 ps26 (hS.bc (i := 0) rfl)) hF (by decide) (fun a hF => ?_)
    refine sq_store (o := 0) (vs := TCube.enc x11) (cs' := TCube.enc x11) hF hS rfl rfl (i := 1) rfl rfl rfl ps26 (TCube.enc_one _) (Nat.le_of_ble_eq_true rfl) rfl (fun W hS => ?_)
    refine sq_nil ?_
    refine then_n ?_
    refine wp_ret ?_
    obtain rfl := Option.some.inj h
    exact ret1 hF rfl (rv_cell (cs := TCube.enc x11) hF rfl pa26 ps26 (hS.bc (i := 1) rfl)) ⟨_, rfl, rfl, (hS.keep (List.nil_sublist _) (List.Sublist.refl _) trivial)⟩
  ·
    refine wp_block ?_
    refine wp_loop_fuel (I := fun m a W => ∃ (x8 : TCube) (x9 : Int) (x10 : Int), FH 58 [(0, .string (u0)), (2, .pointer (some (⟨b1, 0, none⟩))), (3, .pointer (some (⟨b2, 0, none⟩))), (4, .int .i64 (x9)), (5, .int .i64 (x10))] a ∧ St M w0 [⟨b2, TCube.enc x8, 26⟩, ⟨b1, TCube.enc TCube.zero, 26⟩] [] [] W ∧ (ref01_From.l0 k u0 m x8 x9 x10) = some o12) ?_ (k := k) ⟨TCube.zero, 0, 0, (hF.keep ⟨rfl, rfl, rfl, rfl, rfl, trivial⟩), hS, h⟩
    rintro m14 a W ⟨x8, x9, x10, hF, hS, h⟩
    cases m14 with
    | zero => cases h
    | succ m14 =>
      rw [ref01_From.l0] at h
      refine wp_seq ?_
      refine wp_seq ?_
      refine wp_reg ?_
      refine sq_val (v_move hF rfl) hF (by decide) (fun a hF => ?_)
      refine sq_val (v_lss hF rfl rfl) hF (by decide) (fun a hF => ?_)
      refine sq_nil ?_
      refine then_n ?_
      refine wp_if hF rfl (fun he15 => ?_) (fun he15 => ?_)
      ·
        replace h := ifT he15 h
        refine wp_skip ?_
        refine then_n ?_
        refine wp_seq ?_
        refine wp_block ?_
        refine wp_seq ?_
        refine wp_reg ?_
        refine sq_val (v_assign hF rfl) hF (by decide) (fun a hF => ?_)
        refine sq_nil ?_
        refine then_n ?_
        obtain ⟨o26, h, hk27⟩ := bindS h
        refine wp_join (fun a W => ∃ (x24 : TCube) (x25 : Int), (x24, x25) = o26 ∧ FH 58 [(0, .string (u0)), (2, .pointer (some (⟨b1, 0, none⟩))), (3, .pointer (some (⟨b2, 0, none⟩))), (4, .int .i64 (x25)), (5, .int .i64 (x10))] a ∧ St M w0 [⟨b2, TCube.enc x24, 26⟩, ⟨b1, TCube.enc TCube.zero, 26⟩] [] [] W) (fun a W hJ => ?_) ?_
        ·
          obtain ⟨x24, x25, rfl, hF, hS⟩ := hJ
          have h := hk27
          dsimp only at h
          refine blk_n ?_
          refine then_n ?_
          refine wp_reg ?_
          refine sq_val (v_move hF rfl) hF (by decide) (fun a hF => ?_)
          refine sq_val (v_add hF rfl rfl) hF (by decide) (fun a hF => ?_)
          refine sq_val (v_assign hF rfl) hF (by decide) (fun a hF => ?_)
          refine sq_nil ?_
          exact then_j ⟨m14, Nat.lt_succ_self _, x24, x25, (IntKind.i64.wrap (x10 + 1)), (hF.keep ⟨rfl, rfl, rfl, rfl, rfl, trivial⟩), hS, h⟩
        ·
          refine wp_block ?_
          refine wp_loop_fuel (I := fun m a W => ∃ (x21 : TCube) (x22 : Int) (x23 : Int), FH 58 [(0, .string (u0)), (2, .pointer (some (⟨b1, 0, none⟩))), (3, .pointer (some (⟨b2, 0, none⟩))), (4, .int .i64 (x22)), (5, .int .i64 (x10)), (6, .int .i64 (x23))] a ∧ St M w0 [⟨b2, TCube.enc x21, 26⟩, ⟨b1, TCube.enc TCube.zero, 26⟩] [] [] W ∧ (ref01_From.l1 k u0 x10 m x21 x22 x23) = some o26) ?_ (k := k) ⟨x8, x9, 0, (hF.keep ⟨rfl, rfl, rfl, rfl, rfl, rfl, trivial⟩), hS, h⟩
          rintro m28 a W ⟨x21, x22, x23, hF, hS, h⟩
          cases m28 with
          | zero => cases h
          | succ m28 =>
            rw [ref01_From.l1] at h
            refine wp_seq ?_
            refine wp_seq ?_
            refine wp_reg ?_
            refine sq_val (v_move hF rfl) hF (by decide) (fun a hF => ?_)
            refine sq_val (v_move hF rfl) hF (by decide) (fun a hF => ?_)
            obtain ⟨x29, hx30, h⟩ := bindS h
            refine sq_call hF pc110 rfl (by decide) (ok_ref01_Size (hS.enter trivial) hx30) (fun v W hR a hF => ?_)
            obtain ⟨rfl, hT31⟩ := hR
            have hS := hS.grow hT31.below
            refine sq_val (v_lss hF rfl rfl) hF (by decide) (fun a hF => ?_)
            refine sq_nil ?_
            refine then_n ?_
            refine wp_if hF rfl (fun he32 => ?_) (fun he32 => ?_)
            ·
              replace h := ifT he32 h
              refine wp_skip ?_
              refine then_n ?_
              refine wp_seq ?_
              refine wp_block ?_
              refine wp_seq ?_
              refine wp_reg ?_
              refine sq_val (v_move hF rfl) hF (by decide) (fun a hF => ?_)
              refine sq_val (v_move hF rfl) hF (by decide) (fun a hF => ?_)
              refine sq_val (v_fieldAddr hF rfl pf26_0) hF (by decide) (fun a hF => ?_)
              obtain ⟨hb33, h⟩ := ifS h
              refine sq_val (v_indexAddr hF rfl rfl par24 hb33.1 hb33.2) hF (by decide) (fun a hF => ?_)
              refine sq_val (v_load1 hF rfl pa22 (cells_sub (vs := [.int .u64 ((x21.Value.at x10))]) (hS.bc (i := 0) rfl) (add_add _ _ _) (TCube.get_Value x21 x10 hb33.1 hb33.2))) hF (by decide) (fun a hF => ?_)
              refine sq_val (v_mul hF rfl rfl) hF (by decide) (fun a hF => ?_)
              refine sq_val (v_fieldAddr hF rfl pf26_0) hF (by decide) (fun a hF => ?_)
              refine sq_val (v_indexAddr hF rfl rfl par24 hb33.1 hb33.2) hF (by decide) (fun a hF => ?_)
              refine sq_store (o := 0 + x10.toNat * 1) (vs := [.int .u64 ((IntKind.u64.wrap ((x21.Value.at x10) * 2)))]) (cs' := TCube.enc (TCube.setValue x21 (x21.Value.upd x10 (IntKind.u64.wrap ((x21.Value.at x10) * 2))))) hF hS rfl (by simp only [add_add, add_plain, Nat.zero_add]) (i := 0) rfl rfl rfl ps22 (one1 rfl) (by have h0 := hb33.1; have h1 := hb33.2; simp only [TCube.enc, List.length_cons, List.length_nil]; omega) (TCube.set_Value x21 x10 _ hb33.1 hb33.2) (fun W hS => ?_)
              refine sq_nil ?_
              refine then_n ?_
              refine wp_seq ?_
              refine wp_reg ?_
              refine sq_val (v_move hF rfl) hF (by decide) (fun a hF => ?_)
              refine sq_val (v_move hF rfl) hF (by decide) (fun a hF => ?_)
              refine sq_val (v_fieldAddr hF rfl pf26_1) hF (by decide) (fun a hF => ?_)
              refine sq_val (v_indexAddr hF rfl rfl par24 hb33.1 hb33.2) hF (by decide) (fun a hF => ?_)
              refine sq_val (v_load1 hF rfl pa22 (cells_sub (vs := [.int .u64 ((x21.Care.at x10))]) (hS.bc (i := 0) rfl) (add_add _ _ _) (TCube.get_Care (TCube.setValue x21 (x21.Value.upd x10 (IntKind.u64.wrap ((x21.Value.at x10) * 2)))) x10 hb33.1 hb33.2))) hF (by decide) (fun a hF => ?_)
              refine sq_val (v_mul hF rfl rfl) hF (by decide) (fun a hF => ?_)
              refine sq_val (v_fieldAddr hF rfl pf26_1) hF (by decide) (fun a hF => ?_)
              refine sq_val (v_indexAddr hF rfl rfl par24 hb33.1 hb33.2) hF (by decide) (fun a hF => ?_)
              refine sq_store (o := 12 + x10.toNat * 1) (vs := [.int .u64 ((IntKind.u64.wrap ((x21.Care.at x10) * 2)))]) (cs' := TCube.enc ({ Value := (x21.Value.upd x10 (IntKind.u64.wrap ((x21.Value.at x10) * 2))), Care := (x21.Care.upd x10 (IntKind.u64.wrap ((x21.Care.at x10) * 2))) } : TCube)) hF hS rfl (by simp only [add_add, add_plain, Nat.zero_add]) (i := 0) rfl rfl rfl ps22 (one1 rfl) (by have h0 := hb33.1; have h1 := hb33.2; simp only [TCube.enc, List.length_cons, List.length_nil]; omega) (TCube.set_Care (TCube.setValue x21 (x21.Value.upd x10 (IntKind.u64.wrap ((x21.Value.at x10) * 2)))) x10 _ hb33.1 hb33.2) (fun W hS => ?_)
              refine sq_nil ?_
              refine then_n ?_
              refine wp_seq ?_
              refine wp_seq ?_
              refine wp_reg ?_
              refine sq_val (v_move hF rfl) hF (by decide) (fun a hF => ?_)
              refine sq_val (v_move hF rfl) hF (by decide) (fun a hF => ?_)
              obtain ⟨hb34, h⟩ := ifS h
              refine sq_val (v_indexStr hF rfl rfl pu9 hb34.1 hb34.2) hF (by decide) (fun a hF => ?_)
              refine sq_val (v_neq hF rfl rfl) hF (by decide) (fun a hF => ?_)
              refine sq_nil ?_
              refine then_n ?_
              obtain ⟨o36, h, hk37⟩ := bindS h
              refine wp_join (fun a W => ∃ (x35 : TCube), x35 = o36 ∧ FH 58 [(0, .string (u0)), (2, .pointer (some (⟨b1, 0, none⟩))), (3, .pointer (some (⟨b2, 0, none⟩))), (4, .int .i64 (x22)), (5, .int .i64 (x10)), (6, .int .i64 (x23))] a ∧ St M w0 [⟨b2, TCube.enc x35, 26⟩, ⟨b1, TCube.enc TCube.zero, 26⟩] [] [] W) (fun a W hJ => ?_) ?_
              ·
                obtain ⟨x35, rfl, hF, hS⟩ := hJ
                have h := hk37
                refine then_n ?_
                refine wp_seq ?_
                refine wp_seq ?_
                refine wp_reg ?_
                refine sq_val (v_move hF rfl) hF (by decide) (fun a hF => ?_)
                refine sq_val (v_move hF rfl) hF (by decide) (fun a hF => ?_)
                refine sq_val (v_indexStr hF rfl rfl pu9 hb34.1 hb34.2) hF (by decide) (fun a hF => ?_)
                refine sq_val (v_eql hF rfl rfl) hF (by decide) (fun a hF => ?_)
                refine sq_nil ?_
                refine then_n ?_
                obtain ⟨o39, h, hk40⟩ := bindS h
                refine wp_join (fun a W => ∃ (x38 : TCube), x38 = o39 ∧ FH 58 [(0, .string (u0)), (2, .pointer (some (⟨b1, 0, none⟩))), (3, .pointer (some (⟨b2, 0, none⟩))), (4, .int .i64 (x22)), (5, .int .i64 (x10)), (6, .int .i64 (x23))] a ∧ St M w0 [⟨b2, TCube.enc x38, 26⟩, ⟨b1, TCube.enc TCube.zero, 26⟩] [] [] W) (fun a W hJ => ?_) ?_
                ·
                  obtain ⟨x38, rfl, hF, hS⟩ := hJ
                  have h := hk40
                  refine then_n ?_
                  refine wp_reg ?_
                  refine sq_val (v_move hF rfl) hF (by decide) (fun a hF => ?_)
                  refine sq_val (v_add hF rfl rfl) hF (by decide) (fun a hF => ?_)
                  refine sq_val (v_assign hF rfl) hF (by decide) (fun a hF => ?_)
                  refine sq_nil ?_
                  refine blk_n ?_
                  refine then_n ?_
                  refine wp_reg ?_
                  refine sq_val (v_move hF rfl) hF (by decide) (fun a hF => ?_)
                  refine sq_val (v_add hF rfl rfl) hF (by decide) (fun a hF => ?_)
                  refine sq_val (v_assign hF rfl) hF (by decide) (fun a hF => ?_)
                  refine sq_nil ?_
                  exact then_j ⟨m28, Nat.lt_succ_self _, x38, (IntKind.i64.wrap (x22 + 1)), (IntKind.i64.wrap (x23 + 1)), (hF.keep ⟨rfl, rfl, rfl, rfl, rfl, rfl, trivial⟩), hS, h⟩
                ·
                  refine wp_if hF rfl (fun he41 => ?_) (fun he41 => ?_)
                  ·
                    replace h := ifT he41 h
                    refine wp_reg ?_
                    refine sq_val (v_move hF rfl) hF (by decide) (fun a hF => ?_)
                    refine sq_val (v_fieldAddr hF rfl pf26_0) hF (by decide) (fun a hF => ?_)
                    refine sq_val (v_indexAddr hF rfl rfl par24 hb33.1 hb33.2) hF (by decide) (fun a hF => ?_)
                    refine sq_val (v_load1 hF rfl pa22 (cells_sub (vs := [.int .u64 ((x35.Value.at x10))]) (hS.bc (i := 0) rfl) (add_add _ _ _) (TCube.get_Value x35 x10 hb33.1 hb33.2))) hF (by decide) (fun a hF => ?_)
                    refine sq_val (v_add hF rfl rfl) hF (by decide) (fun a hF => ?_)
                    refine sq_val (v_fieldAddr hF rfl pf26_0) hF (by decide) (fun a hF => ?_)
                    refine sq_val (v_indexAddr hF rfl rfl par24 hb33.1 hb33.2) hF (by decide) (fun a hF => ?_)
                    refine sq_store (o := 0 + x10.toNat * 1) (vs := [.int .u64 ((IntKind.u64.wrap ((x35.Value.at x10) + 1)))]) (cs' := TCube.enc (TCube.setValue x35 (x35.Value.upd x10 (IntKind.u64.wrap ((x35.Value.at x10) + 1))))) hF hS rfl (by simp only [add_add, add_plain, Nat.zero_add]) (i := 0) rfl rfl rfl ps22 (one1 rfl) (by have h0 := hb33.1; have h1 := hb33.2; simp only [TCube.enc, List.length_cons, List.length_nil]; omega) (TCube.set_Value x35 x10 _ hb33.1 hb33.2) (fun W hS => ?_)
                    refine sq_nil ?_
                    obtain rfl := Option.some.inj h
                    exact then_j ⟨(TCube.setValue x35 (x35.Value.upd x10 (IntKind.u64.wrap ((x35.Value.at x10) + 1)))), rfl, (hF.keep ⟨rfl, rfl, rfl, rfl, rfl, rfl, trivial⟩), hS⟩
                  ·
                    replace h := ifF he41 h
                    refine wp_skip ?_
                    obtain rfl := Option.some.inj h
                    exact then_j ⟨x35, rfl, (hF.keep ⟨rfl, rfl, rfl, rfl, rfl, rfl, trivial⟩), hS⟩
              ·
                refine wp_if hF rfl (fun he42 => ?_) (fun he42 => ?_)
                ·
                  replace h := ifT he42 h
                  refine wp_reg ?_
                  refine sq_val (v_move hF rfl) hF (by decide) (fun a hF => ?_)
                  refine sq_val (v_fieldAddr hF rfl pf26_1) hF (by decide) (fun a hF => ?_)
                  refine sq_val (v_indexAddr hF rfl rfl par24 hb33.1 hb33.2) hF (by decide) (fun a hF => ?_)
                  refine sq_val (v_load1 hF rfl pa22 (cells_sub (vs := [.int .u64 (((x21.Care.upd x10 (IntKind.u64.wrap ((x21.Care.at x10) * 2))).at x10))]) (hS.bc (i := 0) rfl) (add_add _ _ _) (TCube.get_Care ({ Value := (x21.Value.upd x10 (IntKind.u64.wrap ((x21.Value.at x10) * 2))), Care := (x21.Care.upd x10 (IntKind.u64.wrap ((x21.Care.at x10) * 2))) } : TCube) x10 hb33.1 hb33.2))) hF (by decide) (fun a hF => ?_)
                  refine sq_val (v_add hF rfl rfl) hF (by decide) (fun a hF => ?_)
                  refine sq_val (v_fieldAddr hF rfl pf26_1) hF (by decide) (fun a hF => ?_)
                  refine sq_val (v_indexAddr hF rfl rfl par24 hb33.1 hb33.2) hF (by decide) (fun a hF => ?_)
                  refine sq_store (o := 12 + x10.toNat * 1) (vs := [.int .u64 ((IntKind.u64.wrap (((x21.Care.upd x10 (IntKind.u64.wrap ((x21.Care.at x10) * 2))).at x10) + 1)))]) (cs' := TCube.enc ({ Value := (x21.Value.upd x10 (IntKind.u64.wrap ((x21.Value.at x10) * 2))), Care := ((x21.Care.upd x10 (IntKind.u64.wrap ((x21.Care.at x10) * 2))).upd x10 (IntKind.u64.wrap (((x21.Care.upd x10 (IntKind.u64.wrap ((x21.Care.at x10) * 2))).at x10) + 1))) } : TCube)) hF hS rfl (by simp only [add_add, add_plain, Nat.zero_add]) (i := 0) rfl rfl rfl ps22 (one1 rfl) (by have h0 := hb33.1; have h1 := hb33.2; simp only [TCube.enc, List.length_cons, List.length_nil]; omega) (TCube.set_Care ({ Value := (x21.Value.upd x10 (IntKind.u64.wrap ((x21.Value.at x10) * 2))), Care := (x21.Care.upd x10 (IntKind.u64.wrap ((x21.Care.at x10) * 2))) } : TCube) x10 _ hb33.1 hb33.2) (fun W hS => ?_)
                  refine sq_nil ?_
                  obtain rfl := Option.some.inj h
                  exact then_j ⟨({ Value := (x21.Value.upd x10 (IntKind.u64.wrap ((x21.Value.at x10) * 2))), Care := ((x21.Care.upd x10 (IntKind.u64.wrap ((x21.Care.at x10) * 2))).upd x10 (IntKind.u64.wrap (((x21.Care.upd x10 (IntKind.u64.wrap ((x21.Care.at x10) * 2))).at x10) + 1))) } : TCube), rfl, (hF.keep ⟨rfl, rfl, rfl, rfl, rfl, rfl, trivial⟩), hS⟩
                ·
                  replace h := ifF he42 h
                  refine wp_skip ?_
                  obtain rfl := Option.some.inj h
                  exact then_j ⟨({ Value := (x21.Value.upd x10 (IntKind.u64.wrap ((x21.Value.at x10) * 2))), Care := (x21.Care.upd x10 (IntKind.u64.wrap ((x21.Care.at x10) * 2))) } : TCube), rfl, (hF.keep ⟨rfl, rfl, rfl, rfl, rfl, rfl, trivial⟩), hS⟩
            ·
              replace h := ifF he32 h
              refine wp_exit ?_
              refine then_x ?_
              refine then_x ?_
              refine blk_hit ?_
              obtain rfl := Option.some.inj h
              exact then_j ⟨x21, x22, rfl, (hF.keep ⟨rfl, rfl, rfl, rfl, rfl, trivial⟩), hS⟩
      ·
        replace h := ifF he15 h
        refine wp_exit ?_
        refine then_x ?_
        refine then_x ?_
        refine blk_hit ?_
        obtain rfl := Option.some.inj h
        exact then_j ⟨x8, rfl, (hF.keep ⟨rfl, rfl, trivial⟩), hS⟩
end Go.Proofs.Ytangebngeeamoaa
