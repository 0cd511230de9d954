/- What calls of the Go functions come to. -/
import Derived.Test.YtangebngeeamoaaW2
set_option linter.unusedVariables false
set_option linter.unusedSimpArgs false
set_option maxRecDepth 100000
set_option maxHeartbeats 4000000
namespace Go.Proofs.Ytangebngeeamoaa
open Go.RowKit Go.Pod
theorem ok_cube_Meet (k : Nat) {M : Nat → Prop} {w0 : World} {u0 : TCube} {u1 : TCube} {o : TCube × Bool} (hS : St M w0 [] [] [] w0) (h : cube_Meet k u0 u1 = some o) :
    Calls Try.prog 12 #[.agg (TCube.enc u0).toArray, .agg (TCube.enc u1).toArray] w0 fun e W' => ∃ v, e = .returned v ∧ (v = .tuple #[.agg (TCube.enc o.1).toArray, .bool (o.2)] ∧ St M w0 [] [] [] W') := by
  unfold cube_Meet at h
  refine calls_start (args := [.agg (TCube.enc u0).toArray, .agg (TCube.enc u1).toArray]) Try.func12 rfl rfl (Nat.le_of_ble_eq_true rfl) (fun a hF => ?_)
  refine wp_seq ?_
  refine wp_reg ?_
  refine sq_box hF hS rfl rfl (by decide) (fun b1 a W hF hS => ?_)
  refine sq_box hF hS rfl rfl (by decide) (fun b2 a W hF hS => ?_)
  refine sq_alloc hF hS pz26 rfl (by decide) (fun b3 a W hF hS => ?_)
  refine sq_val (v_assign hF rfl) hF (by decide) (fun a hF => ?_)
  refine sq_nil ?_
  refine then_n ?_
  refine wp_seq ?_
  refine wp_seq ?_
  refine wp_reg ?_
  refine sq_val (v_load (cs := TCube.enc u0) hF rfl pa26 ps26 (hS.bc (i := 2) rfl)) hF (by decide) (fun a hF => ?_)
  refine sq_val (v_load (cs := TCube.enc u1) hF rfl pa26 ps26 (hS.bc (i := 1) rfl)) hF (by decide) (fun a hF => ?_)
  obtain ⟨x4, hx5, h⟩ := bindS h
  refine sq_call hF pc54 rfl (by decide) (ok_cube_both k (hS.enter trivial) hx5) (fun v W hR a hF => ?_)
  obtain ⟨rfl, hT6⟩ := hR
  have hS := hS.grow hT6.below
  refine sq_val (v_not hF rfl) hF (by decide) (fun a hF => ?_)
  refine sq_nil ?_
  refine then_n ?_
  refine wp_if hF rfl (fun he7 => ?_) (fun he7 => ?_)
  ·
   replace h := ifT he7 h
   refine wp_seq ?_
   refine wp_reg ?_
   refine sq_val (v_build (parts := []) (out := TCube.enc TCube.zero) hF rfl rfl pz26 rfl pp26 rfl) hF (by decide) (fun a hF => ?_)
   refine sq_store (o := 0) (vs := TCube.enc TCube.zero) (cs' := TCube.enc TCube.zero) hF hS rfl rfl (i := 0) rfl rfl rfl ps26 (TCube.enc_one _) (Nat.le_of_ble_eq_true rfl) rfl (fun W hS => ?_)
   refine sq_val (v_assign hF rfl) hF (by decide) (fun a hF => ?_)
   refine sq_nil ?_
   refine then_n ?_
   refine wp_ret ?_
   refine then_r ?_
   obtain rfl := Option.some.inj h
   exact ret2 hF rfl (rv_cell (cs := TCube.enc TCube.zero) hF rfl pa26 ps26 (hS.bc (i := 0) rfl)) (rv_tmp hF rfl) ⟨_, rfl, rfl, (hS.keep (List.nil_sublist _) (List.Sublist.refl _) trivial)⟩
  ·
   replace h := ifF he7 h
   refine wp_skip ?_
   refine then_n ?_
   refine wp_seq ?_
   refine wp_seq ?_
   refine wp_reg ?_
   refine sq_val (v_move hF rfl) hF (by decide) (fun a hF => ?_)
   refine sq_nil ?_
   refine then_n ?_
   obtain ⟨o14, h, hk15⟩ := bindS h
   refine wp_join (fun a W => ∃ (x13 : TCube), Lo.brk x13 = o14 ∧ FH 60 [(2, .pointer (some (⟨b1, 0, none⟩))), (4, .pointer (some (⟨b3, 0, none⟩)))] a ∧ St M w0 [⟨b3, TCube.enc TCube.zero, 26⟩, ⟨b1, TCube.enc x13, 26⟩] [] [] W) (fun a W hJ => ?_) ?_
   ·
    obtain ⟨x13, rfl, hF, hS⟩ := hJ
    have h := hk15
    dsimp only at h
    refine then_n ?_
    refine wp_seq ?_
    refine wp_reg ?_
    refine sq_val (v_load (cs := TCube.enc x13) hF rfl pa26 ps26 (hS.bc (i := 1) rfl)) hF (by decide) (fun a hF => ?_)
    refine sq_store (o := 0) (vs := TCube.enc x13) (cs' := TCube.enc x13) hF hS rfl rfl (i := 0) rfl rfl rfl ps26 (TCube.enc_one _) (Nat.le_of_ble_eq_true rfl) rfl (fun W hS => ?_)
    refine sq_val (v_assign hF rfl) hF (by decide) (fun a hF => ?_)
    refine sq_nil ?_
    refine then_n ?_
    refine wp_ret ?_
    obtain rfl := Option.some.inj h
    exact ret2 hF rfl (rv_cell (cs := TCube.enc x13) hF rfl pa26 ps26 (hS.bc (i := 0) rfl)) (rv_tmp hF rfl) ⟨_, rfl, rfl, (hS.keep (List.nil_sublist _) (List.Sublist.refl _) trivial)⟩
   ·
    refine wp_block ?_
    refine wp_loop_fuel (I := fun m a W => ∃ (x11 : TCube) (x12 : Int), FH 60 [(2, .pointer (some (⟨b1, 0, none⟩))), (3, .pointer (some (⟨b2, 0, none⟩))), (4, .pointer (some (⟨b3, 0, none⟩))), (12, .int .i64 (x12))] a ∧ St M w0 [⟨b3, TCube.enc TCube.zero, 26⟩, ⟨b2, TCube.enc u1, 26⟩, ⟨b1, TCube.enc x11, 26⟩] [] [] W ∧ (cube_Meet.l0 k u1 m x11 x12) = some o14) ?_ (k := k) ⟨u0, 0, (hF.keep ⟨rfl, rfl, rfl, rfl, trivial⟩), hS, h⟩
    rintro m16 a W ⟨x11, x12, hF, hS, h⟩
    cases m16 with
    | zero => cases h
    | succ m16 =>
     rw [cube_Meet.l0] at h
     refine wp_seq ?_
     refine wp_reg ?_
     refine sq_val (v_lss hF rfl rfl) hF (by decide) (fun a hF => ?_)
     refine sq_nil ?_
     refine then_n ?_
     refine wp_seq ?_
     refine wp_if hF rfl (fun he17 => ?_) (fun he17 => ?_)
     ·
      replace h := ifT he17 h
      refine wp_skip ?_
      refine then_n ?_
      refine wp_seq ?_
      refine wp_block ?_
      refine wp_seq ?_
      refine wp_reg ?_
      refine sq_val (v_move hF rfl) hF (by decide) (fun a hF => ?_)
      refine sq_val (v_assign hF rfl) hF (by decide) (fun a hF => ?_)
      refine sq_nil ?_
      refine then_n ?_
      refine wp_seq ?_
      refine wp_seq ?_
      refine wp_quiet rfl (by kernel_rfl) hS ?_
      refine qt_val (fun W hC => (v_move hF rfl)) hF (by decide) (fun a hF => ?_)
      refine qt_val (fun W hC => (v_fieldAddr hF rfl pf26_0)) hF (by decide) (fun a hF => ?_)
      obtain ⟨hb18, h⟩ := ifS h
      refine qt_val (fun W hC => (v_indexAddr hF rfl rfl par24 hb18.1 hb18.2)) hF (by decide) (fun a hF => ?_)
      refine qt_val (fun W hC => (v_load1 hF rfl pa22 (cells_sub (vs := [.int .u64 ((x11.Value.at x12))]) (hC.2.bc (i := 2) rfl) (add_add _ _ _) (TCube.get_Value x11 x12 hb18.1 hb18.2)))) hF (by decide) (fun a hF => ?_)
      refine qt_val (fun W hC => (v_move hF rfl)) hF (by decide) (fun a hF => ?_)
      refine qt_val (fun W hC => (v_fieldAddr hF rfl pf26_0)) hF (by decide) (fun a hF => ?_)
      refine qt_val (fun W hC => (v_indexAddr hF rfl rfl par24 hb18.1 hb18.2)) hF (by decide) (fun a hF => ?_)
      refine qt_val (fun W hC => (v_load1 hF rfl pa22 (cells_sub (vs := [.int .u64 ((u1.Value.at x12))]) (hC.2.bc (i := 1) rfl) (add_add _ _ _) (TCube.get_Value u1 x12 hb18.1 hb18.2)))) hF (by decide) (fun a hF => ?_)
      refine qt_val (fun W hC => (v_xor hF rfl rfl)) hF (by decide) (fun a hF => ?_)
      refine qt_val (fun W hC => (v_move hF rfl)) hF (by decide) (fun a hF => ?_)
      refine qt_val (fun W hC => (v_fieldAddr hF rfl pf26_1)) hF (by decide) (fun a hF => ?_)
      refine qt_val (fun W hC => (v_indexAddr hF rfl rfl par24 hb18.1 hb18.2)) hF (by decide) (fun a hF => ?_)
      refine qt_val (fun W hC => (v_load1 hF rfl pa22 (cells_sub (vs := [.int .u64 ((x11.Care.at x12))]) (hC.2.bc (i := 2) rfl) (add_add _ _ _) (TCube.get_Care x11 x12 hb18.1 hb18.2)))) hF (by decide) (fun a hF => ?_)
      refine qt_val (fun W hC => (v_and hF rfl rfl)) hF (by decide) (fun a hF => ?_)
      refine qt_val (fun W hC => (v_move hF rfl)) hF (by decide) (fun a hF => ?_)
      refine qt_val (fun W hC => (v_fieldAddr hF rfl pf26_1)) hF (by decide) (fun a hF => ?_)
      refine qt_val (fun W hC => (v_indexAddr hF rfl rfl par24 hb18.1 hb18.2)) hF (by decide) (fun a hF => ?_)
      refine qt_val (fun W hC => (v_load1 hF rfl pa22 (cells_sub (vs := [.int .u64 ((u1.Care.at x12))]) (hC.2.bc (i := 1) rfl) (add_add _ _ _) (TCube.get_Care u1 x12 hb18.1 hb18.2)))) hF (by decide) (fun a hF => ?_)
      refine qt_val (fun W hC => (v_and hF rfl rfl)) hF (by decide) (fun a hF => ?_)
      refine qt_val (fun W hC => (v_neq hF rfl rfl)) hF (by decide) (fun a hF => ?_)
      refine qt_nil ?_
      intro W hC
      have hS := hC.2
      refine then_n ?_
      refine wp_if hF rfl (fun he19 => ?_) (fun he19 => ?_)
      ·
       replace h := ifT he19 h
       refine wp_seq ?_
       refine wp_reg ?_
       refine sq_val (v_build (parts := []) (out := TCube.enc TCube.zero) hF rfl rfl pz26 rfl pp26 rfl) hF (by decide) (fun a hF => ?_)
       refine sq_store (o := 0) (vs := TCube.enc TCube.zero) (cs' := TCube.enc TCube.zero) hF hS rfl rfl (i := 0) rfl rfl rfl ps26 (TCube.enc_one _) (Nat.le_of_ble_eq_true rfl) rfl (fun W hS => ?_)
       refine sq_val (v_assign hF rfl) hF (by decide) (fun a hF => ?_)
       refine sq_nil ?_
       refine then_n ?_
       refine wp_ret ?_
       refine then_r ?_
       refine blk_r ?_
       refine then_r ?_
       refine then_r ?_
       refine blk_r ?_
       refine then_r ?_
       refine then_r ?_
       obtain rfl := Option.some.inj h
       have h := hk15
       dsimp only at h
       obtain rfl := Option.some.inj h
       exact ret2 hF rfl (rv_cell (cs := TCube.enc TCube.zero) hF rfl pa26 ps26 (hS.bc (i := 0) rfl)) (rv_tmp hF rfl) ⟨_, rfl, rfl, (hS.keep (List.nil_sublist _) (List.Sublist.refl _) trivial)⟩
      ·
       replace h := ifF he19 h
       refine wp_skip ?_
       refine then_n ?_
       refine wp_seq ?_
       refine wp_drawn (QC M w0 [⟨b3, TCube.enc TCube.zero, 26⟩, ⟨b2, TCube.enc u1, 26⟩, ⟨b1, TCube.enc x11, 26⟩] [] []) (fun q => Nat.beq q 11) rfl hS (fun W hB0 hR0 => ?_)
       have hS := hR0
       have hQC : (QC M w0 [⟨b3, TCube.enc TCube.zero, 26⟩, ⟨b2, TCube.enc u1, 26⟩, ⟨b1, TCube.enc x11, 26⟩] [] []) W W := ⟨Bl.refl _ _, hS⟩
       refine e_val (listed' := #[true, false, false, false, false, false, false, false, false, false, false, false]) 0 rfl (by kernel_rfl) (by kernel_rfl) (fun _ _ _ h => h) (fun W => (v_move hF rfl)) hF (by decide) (fun a hF => ?_)
       refine e_val (listed' := #[true, true, false, false, false, false, false, false, false, false, false, false]) 1 rfl (by kernel_rfl) (by kernel_rfl) (fun _ _ _ h => h) (fun W => (v_fieldAddr hF rfl pf26_1)) hF (by decide) (fun a hF => ?_)
       refine e_val (listed' := #[true, true, true, false, false, false, false, false, false, false, false, false]) 2 rfl (by kernel_rfl) (by kernel_rfl) (fun _ _ _ h => h) (fun W => (v_indexAddr hF rfl rfl par24 hb18.1 hb18.2)) hF (by decide) (fun a hF => ?_)
       refine e_valS (listed' := #[true, true, true, true, false, false, false, false, false, false, false, false]) 3 rfl (by kernel_rfl) (by kernel_rfl) (fun _ _ _ h => h) (fun W hC => (v_load1 hF rfl pa22 (cells_sub (vs := [.int .u64 ((x11.Care.at x12))]) (hC.2.bc (i := 2) rfl) (add_add _ _ _) (TCube.get_Care x11 x12 hb18.1 hb18.2)))) hQC (by kernel_rfl) hF (by decide) (fun a hF => ?_)
       refine e_val (listed' := #[true, true, true, true, true, false, false, false, false, false, false, false]) 4 rfl (by kernel_rfl) (by kernel_rfl) (fun _ _ _ h => h) (fun W => (v_move hF rfl)) hF (by decide) (fun a hF => ?_)
       refine e_val (listed' := #[true, true, true, true, true, true, false, false, false, false, false, false]) 5 rfl (by kernel_rfl) (by kernel_rfl) (fun _ _ _ h => h) (fun W => (v_fieldAddr hF rfl pf26_1)) hF (by decide) (fun a hF => ?_)
       refine e_val (listed' := #[true, true, true, true, true, true, true, false, false, false, false, false]) 6 rfl (by kernel_rfl) (by kernel_rfl) (fun _ _ _ h => h) (fun W => (v_indexAddr hF rfl rfl par24 hb18.1 hb18.2)) hF (by decide) (fun a hF => ?_)
       refine e_valS (listed' := #[true, true, true, true, true, true, true, true, false, false, false, false]) 7 rfl (by kernel_rfl) (by kernel_rfl) (fun _ _ _ h => h) (fun W hC => (v_load1 hF rfl pa22 (cells_sub (vs := [.int .u64 ((u1.Care.at x12))]) (hC.2.bc (i := 1) rfl) (add_add _ _ _) (TCube.get_Care u1 x12 hb18.1 hb18.2)))) hQC (by kernel_rfl) hF (by decide) (fun a hF => ?_)
       refine e_val (listed' := #[true, true, true, true, true, true, true, true, true, false, false, false]) 8 rfl (by kernel_rfl) (by kernel_rfl) (fun _ _ _ h => h) (fun W => (v_or hF rfl rfl)) hF (by decide) (fun a hF => ?_)
       refine e_val (listed' := #[true, true, true, true, true, true, true, true, true, true, false, false]) 9 rfl (by kernel_rfl) (by kernel_rfl) (fun _ _ _ h => h) (fun W => (v_fieldAddr hF rfl pf26_1)) hF (by decide) (fun a hF => ?_)
       refine e_val (listed' := #[true, true, true, true, true, true, true, true, true, true, true, false]) 10 rfl (by kernel_rfl) (by kernel_rfl) (fun _ _ _ h => h) (fun W => (v_indexAddr hF rfl rfl par24 hb18.1 hb18.2)) hF (by decide) (fun a hF => ?_)
       refine e_one (listed' := #[true, true, true, true, true, true, true, true, true, true, true, true]) 11 rfl (by kernel_rfl) (by kernel_rfl) ?_
       refine sq_store (o := 12 + x12.toNat * 1) (vs := [.int .u64 ((bOr .u64 (x11.Care.at x12) (u1.Care.at x12)))]) (cs' := TCube.enc (TCube.setCare x11 (x11.Care.upd x12 (bOr .u64 (x11.Care.at x12) (u1.Care.at x12))))) hF hS rfl (by simp only [add_add, add_plain, Nat.zero_add]) (i := 2) rfl rfl rfl ps22 (one1 rfl) (by have h0 := hb18.1; have h1 := hb18.2; simp only [TCube.enc, List.length_cons, List.length_nil]; omega) (TCube.set_Care x11 x12 _ hb18.1 hb18.2) (fun W hS => ?_)
       refine sq_nil (then_j ⟨?_, ?_⟩)
       · exact fun _ hE => absurd hE (by decide)
       ·
        refine e_done (by kernel_rfl) ?_ _
        refine then_n ?_
        refine wp_drawn (QC M w0 [⟨b3, TCube.enc TCube.zero, 26⟩, ⟨b2, TCube.enc u1, 26⟩, ⟨b1, TCube.enc (TCube.setCare x11 (x11.Care.upd x12 (bOr .u64 (x11.Care.at x12) (u1.Care.at x12)))), 26⟩] [] []) (fun q => Nat.beq q 11) rfl hS (fun W hB0 hR0 => ?_)
        have hS := hR0
        have hQC : (QC M w0 [⟨b3, TCube.enc TCube.zero, 26⟩, ⟨b2, TCube.enc u1, 26⟩, ⟨b1, TCube.enc (TCube.setCare x11 (x11.Care.upd x12 (bOr .u64 (x11.Care.at x12) (u1.Care.at x12)))), 26⟩] [] []) W W := ⟨Bl.refl _ _, hS⟩
        refine e_val (listed' := #[true, false, false, false, false, false, false, false, false, false, false, false]) 0 rfl (by kernel_rfl) (by kernel_rfl) (fun _ _ _ h => h) (fun W => (v_move hF rfl)) hF (by decide) (fun a hF => ?_)
        refine e_val (listed' := #[true, true, false, false, false, false, false, false, false, false, false, false]) 1 rfl (by kernel_rfl) (by kernel_rfl) (fun _ _ _ h => h) (fun W => (v_fieldAddr hF rfl pf26_0)) hF (by decide) (fun a hF => ?_)
        refine e_val (listed' := #[true, true, true, false, false, false, false, false, false, false, false, false]) 2 rfl (by kernel_rfl) (by kernel_rfl) (fun _ _ _ h => h) (fun W => (v_indexAddr hF rfl rfl par24 hb18.1 hb18.2)) hF (by decide) (fun a hF => ?_)
        refine e_valS (listed' := #[true, true, true, true, false, false, false, false, false, false, false, false]) 3 rfl (by kernel_rfl) (by kernel_rfl) (fun _ _ _ h => h) (fun W hC => (v_load1 hF rfl pa22 (cells_sub (vs := [.int .u64 ((x11.Value.at x12))]) (hC.2.bc (i := 2) rfl) (add_add _ _ _) (TCube.get_Value (TCube.setCare x11 (x11.Care.upd x12 (bOr .u64 (x11.Care.at x12) (u1.Care.at x12)))) x12 hb18.1 hb18.2)))) hQC (by kernel_rfl) hF (by decide) (fun a hF => ?_)
        refine e_val (listed' := #[true, true, true, true, true, false, false, false, false, false, false, false]) 4 rfl (by kernel_rfl) (by kernel_rfl) (fun _ _ _ h => h) (fun W => (v_move hF rfl)) hF (by decide) (fun a hF => ?_)
        refine e_val (listed' := #[true, true, true, true, true, true, false, false, false, false, false, false]) 5 rfl (by kernel_rfl) (by kernel_rfl) (fun _ _ _ h => h) (fun W => (v_fieldAddr hF rfl pf26_0)) hF (by decide) (fun a hF => ?_)
        refine e_val (listed' := #[true, true, true, true, true, true, true, false, false, false, false, false]) 6 rfl (by kernel_rfl) (by kernel_rfl) (fun _ _ _ h => h) (fun W => (v_indexAddr hF rfl rfl par24 hb18.1 hb18.2)) hF (by decide) (fun a hF => ?_)
        refine e_valS (listed' := #[true, true, true, true, true, true, true, true, false, false, false, false]) 7 rfl (by kernel_rfl) (by kernel_rfl) (fun _ _ _ h => h) (fun W hC => (v_load1 hF rfl pa22 (cells_sub (vs := [.int .u64 ((u1.Value.at x12))]) (hC.2.bc (i := 1) rfl) (add_add _ _ _) (TCube.get_Value u1 x12 hb18.1 hb18.2)))) hQC (by kernel_rfl) hF (by decide) (fun a hF => ?_)
        refine e_val (listed' := #[true, true, true, true, true, true, true, true, true, false, false, false]) 8 rfl (by kernel_rfl) (by kernel_rfl) (fun _ _ _ h => h) (fun W => (v_or hF rfl rfl)) hF (by decide) (fun a hF => ?_)
        refine e_val (listed' := #[true, true, true, true, true, true, true, true, true, true, false, false]) 9 rfl (by kernel_rfl) (by kernel_rfl) (fun _ _ _ h => h) (fun W => (v_fieldAddr hF rfl pf26_0)) hF (by decide) (fun a hF => ?_)
        refine e_val (listed' := #[true, true, true, true, true, true, true, true, true, true, true, false]) 10 rfl (by kernel_rfl) (by kernel_rfl) (fun _ _ _ h => h) (fun W => (v_indexAddr hF rfl rfl par24 hb18.1 hb18.2)) hF (by decide) (fun a hF => ?_)
        refine e_one (listed' := #[true, true, true, true, true, true, true, true, true, true, true, true]) 11 rfl (by kernel_rfl) (by kernel_rfl) ?_
        refine sq_store (o := 0 + x12.toNat * 1) (vs := [.int .u64 ((bOr .u64 (x11.Value.at x12) (u1.Value.at x12)))]) (cs' := TCube.enc ({ Value := (x11.Value.upd x12 (bOr .u64 (x11.Value.at x12) (u1.Value.at x12))), Care := (x11.Care.upd x12 (bOr .u64 (x11.Care.at x12) (u1.Care.at x12))) } : TCube)) hF hS rfl (by simp only [add_add, add_plain, Nat.zero_add]) (i := 2) rfl rfl rfl ps22 (one1 rfl) (by have h0 := hb18.1; have h1 := hb18.2; simp only [TCube.enc, List.length_cons, List.length_nil]; omega) (TCube.set_Value (TCube.setCare x11 (x11.Care.upd x12 (bOr .u64 (x11.Care.at x12) (u1.Care.at x12)))) x12 _ hb18.1 hb18.2) (fun W hS => ?_)
        refine sq_nil (then_j ⟨?_, ?_⟩)
        · exact fun _ hE => absurd hE (by decide)
        ·
         refine e_done (by kernel_rfl) ?_ _
         refine blk_n ?_
         refine then_n ?_
         refine wp_reg ?_
         refine sq_val (v_add hF rfl rfl) hF (by decide) (fun a hF => ?_)
         refine sq_val (v_move hF rfl) hF (by decide) (fun a hF => ?_)
         refine sq_nil ?_
         exact then_j ⟨m16, Nat.lt_succ_self _, ({ Value := (x11.Value.upd x12 (bOr .u64 (x11.Value.at x12) (u1.Value.at x12))), Care := (x11.Care.upd x12 (bOr .u64 (x11.Care.at x12) (u1.Care.at x12))) } : TCube), (IntKind.i64.wrap (x12 + 1)), (hF.keep ⟨rfl, rfl, rfl, rfl, trivial⟩), hS, h⟩
     ·
      replace h := ifF he17 h
      refine wp_exit ?_
      refine then_x ?_
      refine then_x ?_
      refine blk_hit ?_
      obtain rfl := Option.some.inj h
      exact then_j ⟨x11, rfl, (hF.keep ⟨rfl, rfl, trivial⟩), (hS.keep (.cons_cons _ (.cons _ (List.Sublist.refl _))) (List.Sublist.refl _) trivial)⟩

theorem ok_rule_Overlap (k : Nat) {M : Nat → Prop} {w0 : World} {u0 : TRule} {A0_0 : Option Addr} {c0_0 : Nat} {u1 : TRule} {A1_0 : Option Addr} {c1_0 : Nat} {o : Bool} (hS : St M w0 [] [] [fSl k_TAct A0_0 c0_0 u0.Acts, fSl k_TAct A1_0 c1_0 u1.Acts] w0) (h : rule_Overlap k u0 u1 = some o) :
    Calls Try.prog 124 #[.agg (TRule.enc u0 A0_0 c0_0).toArray, .agg (TRule.enc u1 A1_0 c1_0).toArray] w0 fun e W' => ∃ v, e = .returned v ∧ (v = .bool (o) ∧ St M w0 [] [] [] W') := by
  unfold rule_Overlap at h
  refine calls_start (args := [.agg (TRule.enc u0 A0_0 c0_0).toArray, .agg (TRule.enc u1 A1_0 c1_0).toArray]) Try.func124 rfl rfl (Nat.le_of_ble_eq_true rfl) (fun a hF => ?_)
  refine wp_seq ?_
  refine wp_reg ?_
  refine sq_box hF hS rfl rfl (by decide) (fun b1 a W hF hS => ?_)
  refine sq_box hF hS rfl rfl (by decide) (fun b2 a W hF hS => ?_)
  refine sq_val (v_assign hF rfl) hF (by decide) (fun a hF => ?_)
  refine sq_nil ?_
  refine then_n ?_
  refine wp_seq ?_
  refine wp_reg ?_
  refine sq_val (v_fieldAddr hF rfl pf65_0) hF (by decide) (fun a hF => ?_)
  refine sq_val (v_load (cs := TCube.enc u0.Match) hF rfl pa26 ps26 (cells_sub (vs := TCube.enc u0.Match) (hS.bc (i := 1) rfl) rfl rfl)) hF (by decide) (fun a hF => ?_)
  refine sq_val (v_fieldAddr hF rfl pf65_0) hF (by decide) (fun a hF => ?_)
  refine sq_val (v_load (cs := TCube.enc u1.Match) hF rfl pa26 ps26 (cells_sub (vs := TCube.enc u1.Match) (hS.bc (i := 0) rfl) rfl rfl)) hF (by decide) (fun a hF => ?_)
  obtain ⟨x3, hx4, h⟩ := bindS h
  refine sq_call hF pc12 rfl (by decide) (ok_cube_Meet k (hS.enter trivial) hx4) (fun v W hR a hF => ?_)
  obtain ⟨rfl, hT5⟩ := hR
  have hS := hS.grow hT5.below
  refine sq_val (v_move hF rfl) hF (by decide) (fun a hF => ?_)
  refine sq_val (v_extract hF rfl rfl) hF (by decide) (fun a hF => ?_)
  refine sq_val (v_extract hF rfl rfl) hF (by decide) (fun a hF => ?_)
  refine sq_alloc hF hS pz26 rfl (by decide) (fun b6 a W hF hS => ?_)
  refine sq_store (o := 0) (vs := TCube.enc x3.1) (cs' := TCube.enc x3.1) hF hS rfl rfl (i := 0) rfl rfl rfl ps26 (TCube.enc_one _) (Nat.le_of_ble_eq_true rfl) rfl (fun W hS => ?_)
  refine sq_val (v_assign hF rfl) hF (by decide) (fun a hF => ?_)
  refine sq_nil ?_
  refine then_n ?_
  refine wp_seq ?_
  refine wp_reg ?_
  refine sq_val (v_move hF rfl) hF (by decide) (fun a hF => ?_)
  refine sq_val (v_move hF rfl) hF (by decide) (fun a hF => ?_)
  refine sq_cut 6 (fun a W => FH 23 [(22, .bool (x3.2 && (u0.Prio == u1.Prio)))] a ∧ St M w0 [⟨b6, TCube.enc x3.1, 26⟩, ⟨b2, TRule.enc u1 A1_0 c1_0, 65⟩, ⟨b1, TRule.enc u0 A0_0 c0_0, 65⟩] [] [fSl k_TAct A0_0 c0_0 u0.Acts, fSl k_TAct A1_0 c1_0 u1.Acts] W) (fun a W hJ => ?_) ?_
  ·
   obtain ⟨hF, hS⟩ := hJ
   refine sq_val (v_assign hF rfl) hF (by decide) (fun a hF => ?_)
   refine sq_nil ?_
   refine then_n ?_
   refine wp_ret ?_
   obtain rfl := Option.some.inj h
   exact ret1 hF rfl (rv_tmp hF rfl) ⟨_, rfl, rfl, (hS.keep (List.nil_sublist _) (List.Sublist.refl _) trivial)⟩
  ·
   by_cases he7 : x3.2 = true
   ·
    refine sq_yes hF rfl rfl he7 ?_
    refine sq_val (v_fieldAddr hF rfl pf65_1) hF (by decide) (fun a hF => ?_)
    refine sq_yes hF rfl rfl he7 ?_
    refine sq_val (v_load1 hF rfl pa3 (cells_sub (vs := [.int .i64 (u0.Prio)]) (hS.bc (i := 2) rfl) rfl rfl)) hF (by decide) (fun a hF => ?_)
    refine sq_yes hF rfl rfl he7 ?_
    refine sq_val (v_fieldAddr hF rfl pf65_1) hF (by decide) (fun a hF => ?_)
    refine sq_yes hF rfl rfl he7 ?_
    refine sq_val (v_load1 hF rfl pa3 (cells_sub (vs := [.int .i64 (u1.Prio)]) (hS.bc (i := 1) rfl) rfl rfl)) hF (by decide) (fun a hF => ?_)
    refine sq_yes hF rfl rfl he7 ?_
    refine sq_val (v_eql hF rfl rfl) hF (by decide) (fun a hF => ?_)
    refine sq_val (v_pick_t hF rfl he7 rfl) hF (by decide) (fun a hF => ?_)
    exact sq_nil (then_j ⟨(hF.keep ⟨(boolV (and_t he7)), trivial⟩), hS⟩)
   ·
    have he7 : x3.2 = false := nB he7
    refine sq_no hF rfl rfl he7 (by rintro x ⟨⟩; decide) (fun a hF => ?_)
    refine sq_no hF rfl rfl he7 (by rintro x ⟨⟩; decide) (fun a hF => ?_)
    refine sq_no hF rfl rfl he7 (by rintro x ⟨⟩; decide) (fun a hF => ?_)
    refine sq_no hF rfl rfl he7 (by rintro x ⟨⟩; decide) (fun a hF => ?_)
    refine sq_no hF rfl rfl he7 (by rintro x ⟨⟩; decide) (fun a hF => ?_)
    refine sq_val (v_pick_f hF rfl he7 rfl) hF (by decide) (fun a hF => ?_)
    exact sq_nil (then_j ⟨(hF.keep ⟨(boolV (and_f he7)), trivial⟩), hS⟩)

theorem ok_mods_add_2 (k : Nat) {M : Nat → Prop} {w0 : World} {u0 : TRule} {A0_0 : Option Addr} {c0_0 : Nat} {y0 : TRule} {b0_ : Nat} {B0_0 : Option Addr} {d0_0 : Nat} {o : Bool} (hS : St M w0 [] [] [fSl k_TAct A0_0 c0_0 u0.Acts, fSl k_TAct B0_0 d0_0 y0.Acts, fBox b0_ (TRule.enc y0 B0_0 d0_0) 65] w0) (h : mods_add_2 k u0 y0 = some o) :
    Calls Try.prog 123 #[.agg (TRule.enc u0 A0_0 c0_0).toArray, .pointer (some (⟨b0_, 0, none⟩))] w0 fun e W' => ∃ v, e = .returned v ∧ (v = .bool (o) ∧ St M w0 [] [] [] W') := by
  unfold mods_add_2 at h
  refine calls_start (args := [.agg (TRule.enc u0 A0_0 c0_0).toArray, .pointer (some (⟨b0_, 0, none⟩))]) Try.func123 rfl rfl (Nat.le_of_ble_eq_true rfl) (fun a hF => ?_)
  refine wp_seq ?_
  refine wp_reg ?_
  refine sq_box hF hS rfl rfl (by decide) (fun b1 a W hF hS => ?_)
  refine sq_val (v_assign hF rfl) hF (by decide) (fun a hF => ?_)
  refine sq_nil ?_
  refine then_n ?_
  refine wp_seq ?_
  refine wp_reg ?_
  refine sq_val (v_load (cs := TRule.enc u0 A0_0 c0_0) hF rfl pa65 ps65 (hS.bc (i := 0) rfl)) hF (by decide) (fun a hF => ?_)
  refine sq_val (v_load (cs := TRule.enc y0 B0_0 d0_0) hF rfl pa65 ps65 (hS.fbc (i := 2) rfl)) hF (by decide) (fun a hF => ?_)
  obtain ⟨x2, hx3, h⟩ := bindS h
  refine sq_call hF pc122 rfl (by decide) (ok_rule_Key (hS.enter ⟨⟨0, rfl⟩, ⟨1, rfl⟩, trivial⟩) hx3) (fun v W hR a hF => ?_)
  obtain ⟨rfl, hT4⟩ := hR
  have hS := hS.grow hT4.below
  refine sq_val (v_not hF rfl) hF (by decide) (fun a hF => ?_)
  refine sq_val (v_move hF rfl) hF (by decide) (fun a hF => ?_)
  obtain ⟨x6, h, hk8⟩ := bindS h
  refine sq_cut 4 (fun a W => FH 13 [(12, .bool x6)] a ∧ St M w0 [⟨b1, TRule.enc u0 A0_0 c0_0, 65⟩] [] [fSl k_TAct A0_0 c0_0 u0.Acts, fSl k_TAct B0_0 d0_0 y0.Acts, fBox b0_ (TRule.enc y0 B0_0 d0_0) 65] W) (fun a W hJ => ?_) ?_
  ·
   have h := hk8
   obtain ⟨hF, hS⟩ := hJ
   refine sq_val (v_assign hF rfl) hF (by decide) (fun a hF => ?_)
   refine sq_nil ?_
   refine then_n ?_
   refine wp_ret ?_
   obtain rfl := Option.some.inj h
   exact ret1 hF rfl (rv_tmp hF rfl) ⟨_, rfl, rfl, (hS.keep (List.nil_sublist _) (List.Sublist.refl _) trivial)⟩
  ·
   by_cases he5 : (!x2) = true
   ·
    replace h := ifT he5 h
    refine sq_yes hF rfl rfl he5 ?_
    refine sq_val (v_load (cs := TRule.enc u0 A0_0 c0_0) hF rfl pa65 ps65 (hS.bc (i := 0) rfl)) hF (by decide) (fun a hF => ?_)
    refine sq_yes hF rfl rfl he5 ?_
    refine sq_val (v_load (cs := TRule.enc y0 B0_0 d0_0) hF rfl pa65 ps65 (hS.fbc (i := 2) rfl)) hF (by decide) (fun a hF => ?_)
    refine sq_yes hF rfl rfl he5 ?_
    obtain ⟨x9, hx10, h⟩ := bindS h
    refine sq_call hF pc124 rfl (by decide) (ok_rule_Overlap k (hS.enter ⟨⟨0, rfl⟩, ⟨1, rfl⟩, trivial⟩) hx10) (fun v W hR a hF => ?_)
    obtain ⟨rfl, hT11⟩ := hR
    have hS := hS.grow hT11.below
    refine sq_val (v_pick_t hF rfl he5 rfl) hF (by decide) (fun a hF => ?_)
    obtain rfl := Option.some.inj h
    exact sq_nil (then_j ⟨(hF.keep ⟨rfl, trivial⟩), hS⟩)
   ·
    have he5 : (!x2) = false := nB he5
    replace h := ifF he5 h
    refine sq_no hF rfl rfl he5 (by rintro x ⟨⟩; decide) (fun a hF => ?_)
    refine sq_no hF rfl rfl he5 (by rintro x ⟨⟩; decide) (fun a hF => ?_)
    refine sq_no hF rfl rfl he5 (by rintro x ⟨⟩; decide) (fun a hF => ?_)
    refine sq_val (v_pick_f hF rfl he5 rfl) hF (by decide) (fun a hF => ?_)
    obtain rfl := Option.some.inj h
    exact sq_nil (then_j ⟨(hF.keep ⟨rfl, trivial⟩), hS⟩)

theorem ok_slices_ContainsFunc_Rule (k : Nat) {M : Nat → Prop} {w0 : World} {u0 : List TRule} {A0_0 : Option Addr} {c0_0 : Nat} {F1 : FuncId} {caps1 : List Value} {u1 : TRule → Option Bool} {o : Bool} (hS : St M w0 [] [] [fSl k_TRule A0_0 c0_0 u0, fFn1 Try.prog F1 caps1 k_TRule true u1 (fun y => .bool y)] w0) (h : slices_ContainsFunc_Rule k u0 u1 = some o) :
    Calls Try.prog 125 #[.slice A0_0 ((u0).length) c0_0, .func (.func F1) #[] caps1.toArray] w0 fun e W' => ∃ v, e = .returned v ∧ (v = .bool (o) ∧ St M w0 [] [] [] W') := by
  unfold slices_ContainsFunc_Rule at h
  refine calls_start (args := [.slice A0_0 ((u0).length) c0_0, .func (.func F1) #[] caps1.toArray]) Try.func125 rfl rfl (Nat.le_of_ble_eq_true rfl) (fun a hF => ?_)
  refine wp_seq ?_
  refine wp_reg ?_
  refine sq_val (v_assign hF rfl) hF (by decide) (fun a hF => ?_)
  refine sq_nil ?_
  refine then_n ?_
  refine wp_seq ?_
  refine wp_reg ?_
  refine sq_val (v_move hF rfl) hF (by decide) (fun a hF => ?_)
  refine sq_val (v_move hF rfl) hF (by decide) (fun a hF => ?_)
  obtain ⟨x1, hx2, h⟩ := bindS h
  refine sq_call hF pc120 rfl (by decide) (ok_slices_IndexFunc_Rule k (hS.enter ⟨⟨0, rfl⟩, ⟨1, rfl⟩, trivial⟩) hx2) (fun v W hR a hF => ?_)
  obtain ⟨rfl, hT3⟩ := hR
  have hS := hS.grow hT3.below
  refine sq_val (v_geq hF rfl rfl) hF (by decide) (fun a hF => ?_)
  refine sq_val (v_assign hF rfl) hF (by decide) (fun a hF => ?_)
  refine sq_nil ?_
  refine then_n ?_
  refine wp_ret ?_
  obtain rfl := Option.some.inj h
  exact ret1 hF rfl (rv_tmp hF rfl) ⟨_, rfl, rfl, (hS.keep (List.Sublist.refl _) (List.Sublist.refl _) trivial)⟩

theorem ok_rule_copied {M : Nat → Prop} {w0 : World} {u0 : TRule} {A0_0 : Option Addr} {c0_0 : Nat} {o : TRule} (hS : St M w0 [] [] [fSl k_TAct A0_0 c0_0 u0.Acts] w0) (h : rule_copied u0 = some o) :
    Calls Try.prog 127 #[.agg (TRule.enc u0 A0_0 c0_0).toArray] w0 fun e W' => ∃ v, e = .returned v ∧ (∃ (A12 : Option Addr) (c13 : Nat), v = .agg (TRule.enc o A12 c13).toArray ∧ St M w0 [] [] [fSl k_TAct A12 c13 o.Acts] W') := by
  unfold rule_copied at h
  refine calls_start (args := [.agg (TRule.enc u0 A0_0 c0_0).toArray]) Try.func127 rfl rfl (Nat.le_of_ble_eq_true rfl) (fun a hF => ?_)
  refine wp_seq ?_
  refine wp_reg ?_
  refine sq_box hF hS rfl rfl (by decide) (fun b1 a W hF hS => ?_)
  refine sq_alloc hF hS pz65 rfl (by decide) (fun b2 a W hF hS => ?_)
  refine sq_nil ?_
  refine then_n ?_
  refine wp_seq ?_
  refine wp_reg ?_
  refine sq_val (v_fieldAddr hF rfl pf65_2) hF (by decide) (fun a hF => ?_)
  refine sq_val (v_load1 hF rfl pa38 (cells_sub (vs := [.slice A0_0 ((u0.Acts).length) c0_0]) (hS.bc (i := 1) rfl) rfl rfl)) hF (by decide) (fun a hF => ?_)
  obtain ⟨x3, hx4, h⟩ := bindS h
  refine sq_call hF pc70 rfl (by decide) (ok_slices_Clone_Act (hS.enter ⟨⟨0, rfl⟩, trivial⟩) hx4) (fun v W hR a hF => ?_)
  obtain ⟨A5, c6, rfl, hT7⟩ := hR
  have hS := hS.join hT7
  obtain ⟨x8, hx9, h⟩ := bindS h
  refine sq_call hF pc69 rfl (by decide) (ok_slices_Clip_Act hS hx9) (fun v W hR a hF => ?_)
  obtain ⟨A10, c11, rfl, hS⟩ := hR
  refine sq_val (v_fieldAddr hF rfl pf65_2) hF (by decide) (fun a hF => ?_)
  have hS := hS.freeze (i := 0) rfl (posB rfl)
  refine sq_store (o := 25) (vs := [.slice A10 ((x8).length) c11]) (cs' := TRule.enc (TRule.setActs u0 x8) A10 c11) hF hS rfl rfl (i := 1) rfl rfl rfl ps38 (one1 rfl) (Nat.le_of_ble_eq_true rfl) rfl (fun W hS => ?_)
  refine sq_nil ?_
  refine then_n ?_
  refine wp_seq ?_
  refine wp_reg ?_
  refine sq_val (v_load (cs := TRule.enc (TRule.setActs u0 x8) A10 c11) hF rfl pa65 ps65 (hS.bc (i := 1) rfl)) hF (by decide) (fun a hF => ?_)
  refine sq_store (o := 0) (vs := TRule.enc (TRule.setActs u0 x8) A10 c11) (cs' := TRule.enc (TRule.setActs u0 x8) A10 c11) hF hS rfl rfl (i := 0) rfl rfl rfl ps65 (TRule.enc_one _ _ _) (Nat.le_of_ble_eq_true rfl) rfl (fun W hS => ?_)
  refine sq_nil ?_
  refine then_n ?_
  refine wp_ret ?_
  obtain rfl := Option.some.inj h
  exact ret1 hF rfl (rv_cell (cs := TRule.enc (TRule.setActs u0 x8) A10 c11) hF rfl pa65 ps65 (hS.bc (i := 0) rfl)) ⟨_, rfl, A10, c11, rfl, (hS.keep (List.nil_sublist _) (List.Sublist.refl _) ⟨⟨0, rfl⟩, trivial⟩)⟩

theorem ok_slices_Clip_Rule {M : Nat → Prop} {w0 : World} {bs : List Box} {rs : List Row} {fs : List Fact} {W0 : World} {u0 : List TRule} {A0_0 : Option Addr} {c0_0 : Nat} {o : List TRule} (hS : St M w0 (bs) (⟨k_TRule, 65, A0_0, c0_0, u0⟩ :: rs) (fs) W0) (h : slices_Clip_Rule u0 = some o) :
    Calls Try.prog 128 #[.slice A0_0 ((u0).length) c0_0] W0 fun e W' => ∃ v, e = .returned v ∧ (∃ (A1 : Option Addr) (c2 : Nat), v = .slice A1 ((o).length) c2 ∧ St M w0 (bs) (⟨k_TRule, 65, A1, c2, o⟩ :: rs) (fs) W') := by
  unfold slices_Clip_Rule at h
  refine calls_start (args := [.slice A0_0 ((u0).length) c0_0]) Try.func128 rfl rfl (Nat.le_of_ble_eq_true rfl) (fun a hF => ?_)
  refine wp_seq ?_
  refine wp_reg ?_
  refine sq_val (v_assign hF rfl) hF (by decide) (fun a hF => ?_)
  refine sq_nil ?_
  refine then_n ?_
  refine wp_seq ?_
  refine wp_reg ?_
  refine sq_val (v_move hF rfl) hF (by decide) (fun a hF => ?_)
  refine sq_val (v_move hF rfl) hF (by decide) (fun a hF => ?_)
  refine sq_val (v_len hF rfl pu37) hF (by decide) (fun a hF => ?_)
  refine sq_val (v_move hF rfl) hF (by decide) (fun a hF => ?_)
  refine sq_val (v_len hF rfl pu37) hF (by decide) (fun a hF => ?_)
  refine sq_val (v_clip hF rfl rfl rfl psl37 (hS.rw_ (i := 0) rfl).cap) hF (by decide) (fun a hF => ?_)
  have hS := hS.clipRow (i := 0) rfl
  refine sq_val (v_assign hF rfl) hF (by decide) (fun a hF => ?_)
  refine sq_nil ?_
  refine then_n ?_
  refine wp_ret ?_
  obtain rfl := Option.some.inj h
  exact ret1 hF rfl (rv_tmp hF rfl) ⟨_, rfl, A0_0, ((u0).length), rfl, hS⟩

theorem ok_rule_Copy (k : Nat) {M : Nat → Prop} {w0 : World} {u0 : List TRule} {A0_0 : Option Addr} {c0_0 : Nat} {o : (List TRule)} (hS : St M w0 [] [] [fSl k_TRule A0_0 c0_0 u0] w0) (h : rule_Copy k u0 = some o) :
    Calls Try.prog 67 #[.slice A0_0 ((u0).length) c0_0] w0 fun e W' => ∃ v, e = .returned v ∧ (∃ (A41 : Option Addr) (c42 : Nat), v = .slice A41 ((o).length) c42 ∧ St M w0 [] [⟨k_TRule, 65, A41, c42, o⟩] [] W') := by
  unfold rule_Copy at h
  refine calls_start (args := [.slice A0_0 ((u0).length) c0_0]) Try.func67 rfl rfl (Nat.le_of_ble_eq_true rfl) (fun a hF => ?_)
  refine wp_seq ?_
  refine wp_reg ?_
  refine sq_val (v_assign hF rfl) hF (by decide) (fun a hF => ?_)
  refine sq_nil ?_
  refine then_n ?_
  refine wp_seq ?_
  refine wp_reg ?_
  refine sq_val (v_assign hF rfl) hF (by decide) (fun a hF => ?_)
  refine sq_nil ?_
  refine then_n ?_
  refine wp_seq ?_
  refine wp_seq ?_
  refine wp_reg ?_
  refine sq_val (v_move hF rfl) hF (by decide) (fun a hF => ?_)
  refine sq_val (v_len hF rfl pu37) hF (by decide) (fun a hF => ?_)
  refine sq_val (v_move hF rfl) hF (by decide) (fun a hF => ?_)
  refine sq_nil ?_
  refine then_n ?_
  obtain ⟨o12, h, hk13⟩ := bindS h
  refine wp_join (fun a W => ∃ (x9 : List TRule) (A10 : Option Addr) (c11 : Nat), x9 = o12 ∧ FH 20 [(3, .slice A10 ((x9).length) c11)] a ∧ St M w0 [] [⟨k_TRule, 65, A10, c11, x9⟩] [] W) (fun a W hJ => ?_) ?_
  ·
   obtain ⟨x9, A10, c11, rfl, hF, hS⟩ := hJ
   have h := hk13
   refine then_n ?_
   refine wp_seq ?_
   refine wp_reg ?_
   refine sq_val (v_move hF rfl) hF (by decide) (fun a hF => ?_)
   obtain ⟨x14, hx15, h⟩ := bindS h
   refine sq_call hF pc128 rfl (by decide) (ok_slices_Clip_Rule hS hx15) (fun v W hR a hF => ?_)
   obtain ⟨A16, c17, rfl, hS⟩ := hR
   refine sq_val (v_assign hF rfl) hF (by decide) (fun a hF => ?_)
   refine sq_nil ?_
   refine then_n ?_
   refine wp_ret ?_
   obtain rfl := Option.some.inj h
   exact ret1 hF rfl (rv_tmp hF rfl) ⟨_, rfl, A16, c17, rfl, hS⟩
  ·
   have hS := hS.addNil k_TRule 65
   refine wp_block ?_
   refine wp_loop_fuel (I := fun m a W => ∃ (x5 : List TRule) (x8 : Int) (A6 : Option Addr) (c7 : Nat), FH 20 [(3, .slice A6 ((x5).length) c7), (6, .slice A0_0 ((u0).length) c0_0), (7, .int .i64 ((u0.length : Int))), (8, .int .i64 (x8))] a ∧ St M w0 [] [⟨k_TRule, 65, A6, c7, x5⟩] [fSl k_TRule A0_0 c0_0 u0] W ∧ (rule_Copy.l0 k u0 m x5 x8) = some o12) ?_ (k := k) ⟨([]), 0, none, 0, (hF.keep ⟨rfl, rfl, rfl, rfl, trivial⟩), hS, h⟩
   rintro m18 a W ⟨x5, x8, A6, c7, hF, hS, h⟩
   cases m18 with
   | zero => cases h
   | succ m18 =>
    rw [rule_Copy.l0] at h
    refine wp_seq ?_
    refine wp_reg ?_
    refine sq_val (v_lss hF rfl rfl) hF (by decide) (fun a hF => ?_)
    refine sq_nil ?_
    refine then_n ?_
    refine wp_seq ?_
    refine wp_if hF rfl (fun he19 => ?_) (fun he19 => ?_)
    ·
     replace h := ifT he19 h
     refine wp_skip ?_
     refine then_n ?_
     refine wp_seq ?_
     refine wp_block ?_
     refine wp_seq ?_
     refine wp_reg ?_
     obtain ⟨x20, hx21, h⟩ := bindS h
     obtain ⟨p22, cs23, hA24, hat25⟩ := SlR.at (hS.fc (i := 0) rfl) hx21
     obtain ⟨A26, c27, rfl, hs28⟩ := hat25.2.2.2
     have hS := hS.addFact (f := fAt k_TRule (p22.add (x8.toNat * 32)) (TRule.enc x20 A26 c27) x20) hat25
     have hS := hS.addFact (f := fSl k_TAct A26 c27 x20.Acts) hs28
     refine sq_val (v_idx hF rfl hA24 rfl psl37 hx21) hF (by decide) (fun a hF => ?_)
     refine sq_val (v_load (cs := TRule.enc x20 A26 c27) hF rfl pa65 ps65 (hS.pc (i := 1) rfl)) hF (by decide) (fun a hF => ?_)
     refine sq_alloc hF hS pz65 rfl (by decide) (fun b29 a W hF hS => ?_)
     refine sq_store (o := 0) (vs := TRule.enc x20 A26 c27) (cs' := TRule.enc x20 A26 c27) hF hS rfl rfl (i := 0) rfl rfl rfl ps65 (TRule.enc_one _ _ _) (Nat.le_of_ble_eq_true rfl) rfl (fun W hS => ?_)
     refine sq_nil ?_
     refine then_n ?_
     refine wp_reg ?_
     refine sq_val (v_move hF rfl) hF (by decide) (fun a hF => ?_)
     refine sq_val (v_load (cs := TRule.enc x20 A26 c27) hF rfl pa65 ps65 (hS.bc (i := 0) rfl)) hF (by decide) (fun a hF => ?_)
     obtain ⟨x30, hx31, h⟩ := bindS h
     refine sq_call hF pc127 rfl (by decide) (ok_rule_copied (hS.enter ⟨⟨0, rfl⟩, trivial⟩) hx31) (fun v W hR a hF => ?_)
     obtain ⟨A32, c33, rfl, hT34⟩ := hR
     have hS := hS.join hT34
     refine sq_buildSlice (κ := k_TRule) (xs := [.tmp 14]) (ys := [x30]) hF hS rfl rfl rfl (Els.cons ⟨A32, c33, rfl, (hS.fc (i := 0) rfl)⟩ (Els.nil _ _ _)) rfl psl37 pz65 rfl (by decide) (by decide) (by decide) (fun A35 c36 a W hF hS => ?_)
     obtain ⟨x39, hx40, h⟩ := bindS h
     refine sq_append (ys := ([x30])) hF hS (i := 1) rfl rfl rfl (hS.rw_ (i := 0) rfl).src psl37 pb65 pz65 rfl (by decide) (by decide) hx40 (by decide) (fun A37 c38 a W hF hS => ?_)
     refine sq_val (v_assign hF rfl) hF (by decide) (fun a hF => ?_)
     refine sq_nil ?_
     refine blk_n ?_
     refine then_n ?_
     refine wp_reg ?_
     refine sq_val (v_add hF rfl rfl) hF (by decide) (fun a hF => ?_)
     refine sq_val (v_move hF rfl) hF (by decide) (fun a hF => ?_)
     refine sq_nil ?_
     exact then_j ⟨m18, Nat.lt_succ_self _, x39, (IntKind.i64.wrap (x8 + 1)), A37, c38, (hF.keep ⟨rfl, rfl, rfl, rfl, trivial⟩), (hS.keep (List.nil_sublist _) (.cons _ (List.Sublist.refl _)) ⟨⟨3, rfl⟩, trivial⟩), h⟩
    ·
     replace h := ifF he19 h
     refine wp_exit ?_
     refine then_x ?_
     refine then_x ?_
     refine blk_hit ?_
     obtain rfl := Option.some.inj h
     exact then_j ⟨x5, A6, c7, rfl, (hF.keep ⟨rfl, trivial⟩), (hS.keep (List.Sublist.refl _) (List.Sublist.refl _) trivial)⟩

theorem ok_slices_BinarySearchFunc_Rule (k : Nat) {M : Nat → Prop} {w0 : World} {u0 : List TRule} {A0_0 : Option Addr} {c0_0 : Nat} {u1 : TRule} {A1_0 : Option Addr} {c1_0 : Nat} {F2 : FuncId} {caps2 : List Value} {u2 : TRule → TRule → Option Int} {o : Int × Bool} (hS : St M w0 [] [] [fSl k_TRule A0_0 c0_0 u0, fSl k_TAct A1_0 c1_0 u1.Acts, fFn2 Try.prog F2 caps2 k_TRule true k_TRule true u2 (fun y => .int .i64 y)] w0) (h : slices_BinarySearchFunc_Rule k u0 u1 u2 = some o) :
    Calls Try.prog 148 #[.slice A0_0 ((u0).length) c0_0, .agg (TRule.enc u1 A1_0 c1_0).toArray, .func (.func F2) #[] caps2.toArray] w0 fun e W' => ∃ v, e = .returned v ∧ (v = .tuple #[.int .i64 (o.1), .bool (o.2)] ∧ St M w0 [] [] [] W') := by
  unfold slices_BinarySearchFunc_Rule at h
  refine calls_start (args := [.slice A0_0 ((u0).length) c0_0, .agg (TRule.enc u1 A1_0 c1_0).toArray, .func (.func F2) #[] caps2.toArray]) Try.func148 rfl rfl (Nat.le_of_ble_eq_true rfl) (fun a hF => ?_)
  refine wp_seq ?_
  refine wp_reg ?_
  refine sq_box hF hS rfl rfl (by decide) (fun b1 a W hF hS => ?_)
  refine sq_val (v_assign hF rfl) hF (by decide) (fun a hF => ?_)
  refine sq_val (v_assign hF rfl) hF (by decide) (fun a hF => ?_)
  refine sq_nil ?_
  refine then_n ?_
  refine wp_seq ?_
  refine wp_reg ?_
  refine sq_val (v_move hF rfl) hF (by decide) (fun a hF => ?_)
  refine sq_val (v_len hF rfl pu37) hF (by decide) (fun a hF => ?_)
  refine sq_val (v_assign hF rfl) hF (by decide) (fun a hF => ?_)
  refine sq_nil ?_
  refine then_n ?_
  refine wp_seq ?_
  refine wp_reg ?_
  refine sq_val (v_move hF rfl) hF (by decide) (fun a hF => ?_)
  refine sq_val (v_assign hF rfl) hF (by decide) (fun a hF => ?_)
  refine sq_val (v_assign hF rfl) hF (by decide) (fun a hF => ?_)
  refine sq_nil ?_
  refine then_n ?_
  refine wp_seq ?_
  obtain ⟨o7, h, hk8⟩ := bindS h
  refine wp_join (fun a W => ∃ (x6 : Int), x6 = o7 ∧ FH 49 [(0, .slice A0_0 ((u0).length) c0_0), (2, .func (.func F2) #[] caps2.toArray), (4, .pointer (some (⟨b1, 0, none⟩))), (8, .int .i64 ((u0.length : Int))), (9, .int .i64 (x6))] a ∧ St M w0 [⟨b1, TRule.enc u1 A1_0 c1_0, 65⟩] [] [fSl k_TRule A0_0 c0_0 u0, fSl k_TAct A1_0 c1_0 u1.Acts, fFn2 Try.prog F2 caps2 k_TRule true k_TRule true u2 (fun y => .int .i64 y)] W) (fun a W hJ => ?_) ?_
  ·
   obtain ⟨x6, rfl, hF, hS⟩ := hJ
   have h := hk8
   refine then_n ?_
   refine wp_seq ?_
   refine wp_quiet rfl (by kernel_rfl) hS ?_
   refine qt_val (fun W hC => (v_move hF rfl)) hF (by decide) (fun a hF => ?_)
   refine qt_val (fun W hC => (v_move hF rfl)) hF (by decide) (fun a hF => ?_)
   refine qt_val (fun W hC => (v_move hF rfl)) hF (by decide) (fun a hF => ?_)
   refine qt_val (fun W hC => (v_lss hF rfl rfl)) hF (by decide) (fun a hF => ?_)
   refine qt_val (fun W hC => (v_move hF rfl)) hF (by decide) (fun a hF => ?_)
   obtain ⟨x10, h, hk12⟩ := bindS h
   refine qt_cut 9 (fun a => FH 49 [(35, .int .i64 (x6)), (48, .bool x10)] a) (fun a hF => ?_) ?_
   ·
    have h := hk12
    refine qt_val (fun W hC => (v_assign hF rfl)) hF (by decide) (fun a hF => ?_)
    refine qt_val (fun W hC => (v_assign hF rfl)) hF (by decide) (fun a hF => ?_)
    refine qt_nil ?_
    intro W hC
    have hS := hC.2
    refine then_n ?_
    refine wp_ret ?_
    obtain rfl := Option.some.inj h
    exact ret2 hF rfl (rv_tmp hF rfl) (rv_tmp hF rfl) ⟨_, rfl, rfl, (hS.keep (List.nil_sublist _) (List.Sublist.refl _) trivial)⟩
   ·
    by_cases he9 : (decide (x6 < (u0.length : Int))) = true
    ·
     replace h := ifT he9 h
     refine qt_yes hF rfl rfl he9 ?_
     refine qt_val (fun W hC => (v_move hF rfl)) hF (by decide) (fun a hF => ?_)
     refine qt_yes hF rfl rfl he9 ?_
     refine qt_val (fun W hC => (v_move hF rfl)) hF (by decide) (fun a hF => ?_)
     refine qt_yes hF rfl rfl he9 ?_
     refine qt_val (fun W hC => (v_move hF rfl)) hF (by decide) (fun a hF => ?_)
     refine qt_yes hF rfl rfl he9 ?_
     obtain ⟨x13, hx14, h⟩ := bindS h
     obtain ⟨p15, cs16, hA17, hat18⟩ := SlR.at (hS.fc (i := 0) rfl) hx14
     obtain ⟨A19, c20, rfl, hs21⟩ := hat18.2.2.2
     refine qt_val (fun W hC => (v_idx hF rfl hA17 rfl psl37 hx14)) hF (by decide) (fun a hF => ?_)
     refine qt_yes hF rfl rfl he9 ?_
     refine qt_val (fun W hC => (v_load (cs := TRule.enc x13 A19 c20) hF rfl pa65 ps65 (hat18.2.2.1.grow hC.1))) hF (by decide) (fun a hF => ?_)
     refine qt_yes hF rfl rfl he9 ?_
     refine qt_val (fun W hC => (v_load (cs := TRule.enc u1 A1_0 c1_0) hF rfl pa65 ps65 (hC.2.bc (i := 0) rfl))) hF (by decide) (fun a hF => ?_)
     refine qt_yes hF rfl rfl he9 ?_
     obtain ⟨x22, hx23, h⟩ := bindS h
     refine qt_callv hF (hS.fc (i := 2) rfl).1 rfl rfl (by decide) (fun W hC => qcall hC (call2 (hC.2.fc (i := 2) rfl) hC.2 ⟨A19, c20, rfl, (hs21.st (Stp.below hC.1))⟩ ⟨A1_0, c1_0, rfl, (hC.2.fc (i := 1) rfl)⟩ hx23)) (fun a hF => ?_)
     refine qt_yes hF rfl rfl he9 ?_
     refine qt_val (fun W hC => (v_eql hF rfl rfl)) hF (by decide) (fun a hF => ?_)
     refine qt_val (fun W hC => (v_pick_t hF rfl he9 rfl)) hF (by decide) (fun a hF => ?_)
     obtain rfl := Option.some.inj h
     exact qt_nil (hF.keep ⟨rfl, rfl, trivial⟩)
    ·
     have he9 : (decide (x6 < (u0.length : Int))) = false := nB he9
     replace h := ifF he9 h
     refine qt_no hF rfl rfl he9 (by decide) (fun a hF => ?_)
     refine qt_no hF rfl rfl he9 (by decide) (fun a hF => ?_)
     refine qt_no hF rfl rfl he9 (by decide) (fun a hF => ?_)
     refine qt_no hF rfl rfl he9 (by decide) (fun a hF => ?_)
     refine qt_no hF rfl rfl he9 (by decide) (fun a hF => ?_)
     refine qt_no hF rfl rfl he9 (by decide) (fun a hF => ?_)
     refine qt_no hF rfl rfl he9 (by decide) (fun a hF => ?_)
     refine qt_no hF rfl rfl he9 (by decide) (fun a hF => ?_)
     refine qt_val (fun W hC => (v_pick_f hF rfl he9 rfl)) hF (by decide) (fun a hF => ?_)
     obtain rfl := Option.some.inj h
     exact qt_nil (hF.keep ⟨rfl, rfl, trivial⟩)
  ·
   refine wp_block ?_
   refine wp_loop_fuel (I := fun m a W => ∃ (x4 : Int) (x5 : Int), FH 49 [(0, .slice A0_0 ((u0).length) c0_0), (2, .func (.func F2) #[] caps2.toArray), (4, .pointer (some (⟨b1, 0, none⟩))), (8, .int .i64 ((u0.length : Int))), (9, .int .i64 (x4)), (10, .int .i64 (x5))] a ∧ St M w0 [⟨b1, TRule.enc u1 A1_0 c1_0, 65⟩] [] [fSl k_TRule A0_0 c0_0 u0, fSl k_TAct A1_0 c1_0 u1.Acts, fFn2 Try.prog F2 caps2 k_TRule true k_TRule true u2 (fun y => .int .i64 y)] W ∧ (slices_BinarySearchFunc_Rule.l0 k u0 u1 u2 m x4 x5) = some o7) ?_ (k := k) ⟨0, (u0.length : Int), (hF.keep ⟨rfl, rfl, rfl, rfl, rfl, rfl, trivial⟩), hS, h⟩
   rintro m24 a W ⟨x4, x5, hF, hS, h⟩
   cases m24 with
   | zero => cases h
   | succ m24 =>
    rw [slices_BinarySearchFunc_Rule.l0] at h
    refine wp_seq ?_
    refine wp_seq ?_
    refine wp_reg ?_
    refine sq_val (v_move hF rfl) hF (by decide) (fun a hF => ?_)
    refine sq_val (v_move hF rfl) hF (by decide) (fun a hF => ?_)
    refine sq_val (v_lss hF rfl rfl) hF (by decide) (fun a hF => ?_)
    refine sq_nil ?_
    refine then_n ?_
    refine wp_if hF rfl (fun he25 => ?_) (fun he25 => ?_)
    ·
     replace h := ifT he25 h
     refine wp_skip ?_
     refine then_n ?_
     obtain ⟨o28, h, hk29⟩ := bindS h
     refine wp_join (fun a W => ∃ (x26 : Int) (x27 : Int), (x26, x27) = o28 ∧ FH 49 [(0, .slice A0_0 ((u0).length) c0_0), (2, .func (.func F2) #[] caps2.toArray), (4, .pointer (some (⟨b1, 0, none⟩))), (8, .int .i64 ((u0.length : Int))), (9, .int .i64 (x26)), (10, .int .i64 (x27))] a ∧ St M w0 [⟨b1, TRule.enc u1 A1_0 c1_0, 65⟩] [] [fSl k_TRule A0_0 c0_0 u0, fSl k_TAct A1_0 c1_0 u1.Acts, fFn2 Try.prog F2 caps2 k_TRule true k_TRule true u2 (fun y => .int .i64 y)] W) (fun a W hJ => ?_) ?_
     ·
      obtain ⟨x26, x27, rfl, hF, hS⟩ := hJ
      have h := hk29
      dsimp only at h
      exact then_j ⟨m24, Nat.lt_succ_self _, x26, x27, (hF.keep ⟨rfl, rfl, rfl, rfl, rfl, rfl, trivial⟩), hS, h⟩
     ·
      refine wp_block ?_
      refine wp_seq ?_
      refine wp_reg ?_
      refine sq_val (v_move hF rfl) hF (by decide) (fun a hF => ?_)
      refine sq_val (v_move hF rfl) hF (by decide) (fun a hF => ?_)
      refine sq_val (v_add hF rfl rfl) hF (by decide) (fun a hF => ?_)
      refine sq_val (v_convI hF rfl pu3 pu137) hF (by decide) (fun a hF => ?_)
      refine sq_val (v_shr hF rfl rfl (by decide)) hF (by decide) (fun a hF => ?_)
      refine sq_val (v_convI hF rfl pu137 pu3) hF (by decide) (fun a hF => ?_)
      refine sq_val (v_assign hF rfl) hF (by decide) (fun a hF => ?_)
      refine sq_nil ?_
      refine then_n ?_
      refine wp_seq ?_
      refine wp_quiet rfl (by kernel_rfl) hS ?_
      refine qt_val (fun W hC => (v_move hF rfl)) hF (by decide) (fun a hF => ?_)
      refine qt_val (fun W hC => (v_move hF rfl)) hF (by decide) (fun a hF => ?_)
      refine qt_val (fun W hC => (v_move hF rfl)) hF (by decide) (fun a hF => ?_)
      obtain ⟨x30, hx31, h⟩ := bindS h
      obtain ⟨p32, cs33, hA34, hat35⟩ := SlR.at (hS.fc (i := 0) rfl) hx31
      obtain ⟨A36, c37, rfl, hs38⟩ := hat35.2.2.2
      refine qt_val (fun W hC => (v_idx hF rfl hA34 rfl psl37 hx31)) hF (by decide) (fun a hF => ?_)
      refine qt_val (fun W hC => (v_load (cs := TRule.enc x30 A36 c37) hF rfl pa65 ps65 (hat35.2.2.1.grow hC.1))) hF (by decide) (fun a hF => ?_)
      refine qt_val (fun W hC => (v_load (cs := TRule.enc u1 A1_0 c1_0) hF rfl pa65 ps65 (hC.2.bc (i := 0) rfl))) hF (by decide) (fun a hF => ?_)
      obtain ⟨x39, hx40, h⟩ := bindS h
      refine qt_callv hF (hS.fc (i := 2) rfl).1 rfl rfl (by decide) (fun W hC => qcall hC (call2 (hC.2.fc (i := 2) rfl) hC.2 ⟨A36, c37, rfl, (hs38.st (Stp.below hC.1))⟩ ⟨A1_0, c1_0, rfl, (hC.2.fc (i := 1) rfl)⟩ hx40)) (fun a hF => ?_)
      refine qt_val (fun W hC => (v_lss hF rfl rfl)) hF (by decide) (fun a hF => ?_)
      refine qt_nil ?_
      intro W hC
      have hS := hC.2
      refine then_n ?_
      obtain ⟨o43, h, hk44⟩ := bindS h
      refine wp_join (fun a W => ∃ (x41 : Int) (x42 : Int), (x41, x42) = o43 ∧ FH 49 [(0, .slice A0_0 ((u0).length) c0_0), (2, .func (.func F2) #[] caps2.toArray), (4, .pointer (some (⟨b1, 0, none⟩))), (8, .int .i64 ((u0.length : Int))), (9, .int .i64 (x41)), (10, .int .i64 (x42))] a ∧ St M w0 [⟨b1, TRule.enc u1 A1_0 c1_0, 65⟩] [] [fSl k_TRule A0_0 c0_0 u0, fSl k_TAct A1_0 c1_0 u1.Acts, fFn2 Try.prog F2 caps2 k_TRule true k_TRule true u2 (fun y => .int .i64 y)] W) (fun a W hJ => ?_) ?_
      ·
       obtain ⟨x41, x42, rfl, hF, hS⟩ := hJ
       have h := hk44
       dsimp only at h
       refine blk_n ?_
       obtain rfl := Option.some.inj h
       exact then_j ⟨x41, x42, rfl, (hF.keep ⟨rfl, rfl, rfl, rfl, rfl, rfl, trivial⟩), hS⟩
      ·
       refine wp_if hF rfl (fun he45 => ?_) (fun he45 => ?_)
       ·
        replace h := ifT he45 h
        refine wp_reg ?_
        refine sq_val (v_move hF rfl) hF (by decide) (fun a hF => ?_)
        refine sq_val (v_add hF rfl rfl) hF (by decide) (fun a hF => ?_)
        refine sq_val (v_assign hF rfl) hF (by decide) (fun a hF => ?_)
        refine sq_nil ?_
        obtain rfl := Option.some.inj h
        exact then_j ⟨(IntKind.i64.wrap ((IntKind.i64.wrap (bShr .u64 (IntKind.u64.wrap (IntKind.i64.wrap (x4 + x5))) 1)) + 1)), x5, rfl, (hF.keep ⟨rfl, rfl, rfl, rfl, rfl, rfl, trivial⟩), hS⟩
       ·
        replace h := ifF he45 h
        refine wp_reg ?_
        refine sq_val (v_move hF rfl) hF (by decide) (fun a hF => ?_)
        refine sq_val (v_assign hF rfl) hF (by decide) (fun a hF => ?_)
        refine sq_nil ?_
        obtain rfl := Option.some.inj h
        exact then_j ⟨x4, (IntKind.i64.wrap (bShr .u64 (IntKind.u64.wrap (IntKind.i64.wrap (x4 + x5))) 1)), rfl, (hF.keep ⟨rfl, rfl, rfl, rfl, rfl, rfl, trivial⟩), hS⟩
    ·
     replace h := ifF he25 h
     refine wp_exit ?_
     refine then_x ?_
     refine then_x ?_
     refine blk_hit ?_
     obtain rfl := Option.some.inj h
     exact then_j ⟨x4, rfl, (hF.keep ⟨rfl, rfl, rfl, rfl, rfl, trivial⟩), hS⟩

theorem ok_slices_Insert_Rule {M : Nat → Prop} {w0 : World} {bs : List Box} {rs : List Row} {fs : List Fact} {W0 : World} {u0 : List TRule} {A0_0 : Option Addr} {c0_0 : Nat} {u1 : Int} {u2 : List TRule} {A2_0 : Option Addr} {c2_0 : Nat} {o : List TRule} (hS : St M w0 bs (⟨k_TRule, 65, A0_0, c0_0, u0⟩ :: ⟨k_TRule, 65, A2_0, c2_0, u2⟩ :: rs) fs W0) (h : slices_Insert_Rule u0 u1 u2 = some o) :
    Calls Try.prog 149 #[.slice A0_0 (u0).length c0_0, .int .i64 u1, .slice A2_0 (u2).length c2_0] W0 fun e W' => ∃ v, e = .returned v ∧ ∃ (A : Option Addr) (c : Nat), v = .slice A (o).length c ∧ St M w0 bs (⟨k_TRule, 65, A, c, o⟩ :: rs) fs W' :=
  ins_ok rfl hS h
end Go.Proofs.Ytangebngeeamoaa
