/- What calls of the Go functions come to. -/
import Derived.Test.YtangebngeeamoaaW10
set_option linter.unusedVariables false
set_option linter.unusedSimpArgs false
set_option maxRecDepth 100000
set_option maxHeartbeats 4000000
namespace Go.Proofs.Ytangebngeeamoaa
open Go.RowKit Go.Pod
theorem ok_ref01_Meet (k : Nat) {M : Nat → Prop} {w0 : World} {u0 : TCube} {u1 : TCube} {o : TCube × Bool} (hS : St M w0 [] [] [] w0) (h : ref01_Meet k u0 u1 = some o) :
    Calls Try.prog 13 #[.agg (TCube.enc u0).toArray, .agg (TCube.enc u1).toArray] w0 fun e W' => ∃ v, e = .returned v ∧ (v = .tuple #[.agg (TCube.enc o.1).toArray, .bool (o.2)] ∧ St M w0 [] [] [] W') := by
  unfold ref01_Meet at h
  refine calls_start (args := [.agg (TCube.enc u0).toArray, .agg (TCube.enc u1).toArray]) Try.func13 rfl rfl (Nat.le_of_ble_eq_true rfl) (fun a hF => ?_)
  refine wp_seq ?_
  refine wp_reg ?_
  refine sq_box hF hS rfl rfl (by decide) (fun b1 a W hF hS => ?_)
  refine sq_box hF hS rfl rfl (by decide) (fun b2 a W hF hS => ?_)
  refine sq_alloc hF hS pz26 rfl (by decide) (fun b3 a W hF hS => ?_)
  refine sq_val (v_assign hF rfl) hF (by decide) (fun a hF => ?_)
  refine sq_nil ?_
  refine then_n ?_
  refine wp_seq ?_
  refine wp_reg ?_
  refine sq_val (v_load (cs := TCube.enc u0) hF rfl pa26 ps26 (hS.bc (i := 2) rfl)) hF (by decide) (fun a hF => ?_)
  obtain ⟨x4, hx5, h⟩ := bindS h
  refine sq_call hF pc55 rfl (by decide) (ok_ref01_Text k (hS.enter trivial) hx5) (fun v W hR a hF => ?_)
  obtain ⟨rfl, hT6⟩ := hR
  have hS := hS.grow hT6.below
  refine sq_val (v_move hF rfl) hF (by decide) (fun a hF => ?_)
  refine sq_val (v_extract hF rfl rfl) hF (by decide) (fun a hF => ?_)
  refine sq_val (v_extract hF rfl rfl) hF (by decide) (fun a hF => ?_)
  refine sq_val (v_assign hF rfl) hF (by decide) (fun a hF => ?_)
  refine sq_val (v_assign hF rfl) hF (by decide) (fun a hF => ?_)
  refine sq_nil ?_
  refine then_n ?_
  refine wp_seq ?_
  refine wp_reg ?_
  refine sq_val (v_load (cs := TCube.enc u1) hF rfl pa26 ps26 (hS.bc (i := 1) rfl)) hF (by decide) (fun a hF => ?_)
  obtain ⟨x7, hx8, h⟩ := bindS h
  refine sq_call hF pc55 rfl (by decide) (ok_ref01_Text k (hS.enter trivial) hx8) (fun v W hR a hF => ?_)
  obtain ⟨rfl, hT9⟩ := hR
  have hS := hS.grow hT9.below
  refine sq_val (v_move hF rfl) hF (by decide) (fun a hF => ?_)
  refine sq_val (v_extract hF rfl rfl) hF (by decide) (fun a hF => ?_)
  refine sq_val (v_extract hF rfl rfl) hF (by decide) (fun a hF => ?_)
  refine sq_val (v_assign hF rfl) hF (by decide) (fun a hF => ?_)
  refine sq_val (v_assign hF rfl) hF (by decide) (fun a hF => ?_)
  refine sq_nil ?_
  refine then_n ?_
  refine wp_seq ?_
  refine wp_seq ?_
  refine wp_reg ?_
  refine sq_val (v_move hF rfl) hF (by decide) (fun a hF => ?_)
  refine sq_val (v_not hF rfl) hF (by decide) (fun a hF => ?_)
  refine sq_val (v_move hF rfl) hF (by decide) (fun a hF => ?_)
  refine sq_cut 3 (fun a W => FH 64 [(4, .pointer (some (⟨b3, 0, none⟩))), (6, .string (x4.1)), (8, .string (x7.1)), (27, .bool ((!x4.2) || (!x7.2)))] a ∧ St M w0 [⟨b3, TCube.enc TCube.zero, 26⟩, ⟨b2, TCube.enc u1, 26⟩, ⟨b1, TCube.enc u0, 26⟩] [] [] W) (fun a W hJ => ?_) ?_
  ·
   obtain ⟨hF, hS⟩ := hJ
   refine sq_nil ?_
   refine then_n ?_
   refine wp_if hF rfl (fun he11 => ?_) (fun he11 => ?_)
   ·
    replace h := ifT he11 h
    refine wp_seq ?_
    refine wp_reg ?_
    refine sq_val (v_build (parts := []) (out := TCube.enc TCube.zero) hF rfl rfl pz26 rfl pp26 rfl) hF (by decide) (fun a hF => ?_)
    refine sq_store (o := 0) (vs := TCube.enc TCube.zero) (cs' := TCube.enc TCube.zero) hF hS rfl rfl (i := 0) rfl rfl rfl ps26 (TCube.enc_one _) (Nat.le_of_ble_eq_true rfl) rfl (fun W hS => ?_)
    refine sq_val (v_assign hF rfl) hF (by decide) (fun a hF => ?_)
    refine sq_nil ?_
    refine then_n ?_
    refine wp_ret ?_
    refine then_r ?_
    obtain rfl := Option.some.inj h
    exact ret2 hF rfl (rv_cell (cs := TCube.enc TCube.zero) hF rfl pa26 ps26 (hS.bc (i := 0) rfl)) (rv_tmp hF rfl) ⟨_, rfl, rfl, (hS.keep (List.nil_sublist _) (List.Sublist.refl _) trivial)⟩
   ·
    replace h := ifF he11 h
    refine wp_skip ?_
    refine then_n ?_
    refine wp_seq ?_
    refine wp_reg ?_
    refine sq_val (v_move hF rfl) hF (by decide) (fun a hF => ?_)
    obtain ⟨x14, hx15, h⟩ := bindS h
    refine sq_toBytes hF hS rfl pu9 pu82 pu5 hx15 (by decide) (fun A12 c13 a W hF hS => ?_)
    refine sq_val (v_assign hF rfl) hF (by decide) (fun a hF => ?_)
    refine sq_nil ?_
    refine then_n ?_
    refine wp_seq ?_
    refine wp_seq ?_
    refine wp_reg ?_
    refine sq_val (v_assign hF rfl) hF (by decide) (fun a hF => ?_)
    refine sq_nil ?_
    refine then_n ?_
    obtain ⟨o22, h, hk23⟩ := bindS h
    refine wp_join (fun a W => ∃ (x21 : List Int), Lo.brk x21 = o22 ∧ FH 64 [(4, .pointer (some (⟨b3, 0, none⟩))), (10, .slice A12 ((x21).length) c13)] a ∧ St M w0 [⟨b3, TCube.enc TCube.zero, 26⟩] [⟨(kInt .u8), 5, A12, c13, x21⟩] [] W) (fun a W hJ => ?_) ?_
    ·
     obtain ⟨x21, rfl, hF, hS⟩ := hJ
     have h := hk23
     dsimp only at h
     refine then_n ?_
     refine wp_seq ?_
     refine wp_reg ?_
     refine sq_val (v_move hF rfl) hF (by decide) (fun a hF => ?_)
     refine sq_val (v_toStr hF rfl (hS.rw_ (i := 0) rfl).src pu82 pu5 pu9) hF (by decide) (fun a hF => ?_)
     obtain ⟨x24, hx25, h⟩ := bindS h
     refine sq_call hF pc56 rfl (by decide) (ok_ref01_From k (hS.enter trivial) hx25) (fun v W hR a hF => ?_)
     obtain ⟨rfl, hT26⟩ := hR
     have hS := hS.grow hT26.below
     refine sq_store (o := 0) (vs := TCube.enc x24) (cs' := TCube.enc x24) hF hS rfl rfl (i := 0) rfl rfl rfl ps26 (TCube.enc_one _) (Nat.le_of_ble_eq_true rfl) rfl (fun W hS => ?_)
     refine sq_val (v_assign hF rfl) hF (by decide) (fun a hF => ?_)
     refine sq_nil ?_
     refine then_n ?_
     refine wp_ret ?_
     obtain rfl := Option.some.inj h
     exact ret2 hF rfl (rv_cell (cs := TCube.enc x24) hF rfl pa26 ps26 (hS.bc (i := 0) rfl)) (rv_tmp hF rfl) ⟨_, rfl, rfl, (hS.keep (List.nil_sublist _) (List.nil_sublist _) trivial)⟩
    ·
     refine wp_block ?_
     refine wp_loop_fuel (I := fun m a W => ∃ (x19 : List Int) (x20 : Int), FH 64 [(4, .pointer (some (⟨b3, 0, none⟩))), (6, .string (x4.1)), (8, .string (x7.1)), (10, .slice A12 ((x19).length) c13), (11, .int .i64 (x20))] a ∧ St M w0 [⟨b3, TCube.enc TCube.zero, 26⟩] [⟨(kInt .u8), 5, A12, c13, x19⟩] [] W ∧ (ref01_Meet.l0 k x4 x7 m x19 x20) = some o22) ?_ (k := k) ⟨x14, 0, (hF.keep ⟨rfl, rfl, rfl, rfl, rfl, trivial⟩), (hS.keep (.cons_cons _ (List.nil_sublist _)) (List.Sublist.refl _) trivial), h⟩
     rintro m27 a W ⟨x19, x20, hF, hS, h⟩
     cases m27 with
     | zero => cases h
     | succ m27 =>
      rw [ref01_Meet.l0] at h
      refine wp_seq ?_
      refine wp_seq ?_
      refine wp_reg ?_
      refine sq_val (v_move hF rfl) hF (by decide) (fun a hF => ?_)
      refine sq_val (v_move hF rfl) hF (by decide) (fun a hF => ?_)
      refine sq_val (v_lenS hF rfl pu9) hF (by decide) (fun a hF => ?_)
      refine sq_val (v_lss hF rfl rfl) hF (by decide) (fun a hF => ?_)
      refine sq_nil ?_
      refine then_n ?_
      refine wp_if hF rfl (fun he28 => ?_) (fun he28 => ?_)
      ·
       replace h := ifT he28 h
       refine wp_skip ?_
       refine then_n ?_
       refine wp_seq ?_
       obtain ⟨o30, h, hk31⟩ := bindS h
       refine wp_join (fun a W => ∃ (x29 : List Int), Lo.brk x29 = o30 ∧ FH 64 [(4, .pointer (some (⟨b3, 0, none⟩))), (6, .string (x4.1)), (8, .string (x7.1)), (10, .slice A12 ((x29).length) c13), (11, .int .i64 (x20))] a ∧ St M w0 [⟨b3, TCube.enc TCube.zero, 26⟩] [⟨(kInt .u8), 5, A12, c13, x29⟩] [] W) (fun a W hJ => ?_) ?_
       ·
        obtain ⟨x29, rfl, hF, hS⟩ := hJ
        have h := hk31
        dsimp only at h
        refine then_n ?_
        refine wp_reg ?_
        refine sq_val (v_move hF rfl) hF (by decide) (fun a hF => ?_)
        refine sq_val (v_add hF rfl rfl) hF (by decide) (fun a hF => ?_)
        refine sq_val (v_assign hF rfl) hF (by decide) (fun a hF => ?_)
        refine sq_nil ?_
        exact then_j ⟨m27, Nat.lt_succ_self _, x29, (IntKind.i64.wrap (x20 + 1)), (hF.keep ⟨rfl, rfl, rfl, rfl, rfl, trivial⟩), hS, h⟩
       ·
        refine wp_block ?_
        refine wp_seq ?_
        refine wp_reg ?_
        refine sq_val (v_move hF rfl) hF (by decide) (fun a hF => ?_)
        refine sq_val (v_move hF rfl) hF (by decide) (fun a hF => ?_)
        obtain ⟨hb32, h⟩ := ifS h
        refine sq_val (v_indexStr hF rfl rfl pu9 hb32.1 hb32.2) hF (by decide) (fun a hF => ?_)
        refine sq_val (v_eql hF rfl rfl) hF (by decide) (fun a hF => ?_)
        refine sq_nil ?_
        refine then_n ?_
        obtain ⟨o34, h, hk35⟩ := bindS h
        refine wp_join (fun a W => ∃ (x33 : List Int), Lo.brk x33 = o34 ∧ FH 64 [(4, .pointer (some (⟨b3, 0, none⟩))), (6, .string (x4.1)), (8, .string (x7.1)), (10, .slice A12 ((x33).length) c13), (11, .int .i64 (x20))] a ∧ St M w0 [⟨b3, TCube.enc TCube.zero, 26⟩] [⟨(kInt .u8), 5, A12, c13, x33⟩] [] W) (fun a W hJ => ?_) ?_
        ·
         obtain ⟨x33, rfl, hF, hS⟩ := hJ
         have h := hk35
         dsimp only at h
         refine blk_n ?_
         obtain rfl := Option.some.inj h
         exact then_j ⟨x33, rfl, (hF.keep ⟨rfl, rfl, rfl, rfl, rfl, trivial⟩), hS⟩
        ·
         refine wp_if hF rfl (fun he36 => ?_) (fun he36 => ?_)
         ·
          replace h := ifT he36 h
          refine wp_reg ?_
          refine sq_val (v_move hF rfl) hF (by decide) (fun a hF => ?_)
          refine sq_val (v_move hF rfl) hF (by decide) (fun a hF => ?_)
          refine sq_val (v_move hF rfl) hF (by decide) (fun a hF => ?_)
          refine sq_val (v_move hF rfl) hF (by decide) (fun a hF => ?_)
          obtain ⟨hb37, h⟩ := ifS h
          refine sq_val (v_indexStr hF rfl rfl pu9 hb37.1 hb37.2) hF (by decide) (fun a hF => ?_)
          obtain ⟨x38, hx39, h⟩ := bindS h
          obtain ⟨p40, cs41, hA42, hc44, hr45⟩ := Row.ok.at (hS.rw_ (i := 0) rfl) hx39
          obtain rfl : cs41 = [.int .u8 (x38)] := hr45
          refine sq_val (v_idx hF rfl hA42 rfl psl82 hx39) hF (by decide) (fun a hF => ?_)
          refine sq_storeEl hF hS (i := 0) rfl hA42 rfl hx39 rfl rfl ps5 rfl (fun W hS => ?_)
          have hF : FH 64 [(4, .pointer (some (⟨b3, 0, none⟩))), (6, .string (x4.1)), (8, .string (x7.1)), (10, .slice A12 (((x19.set x20.toNat (byteAt x7.1 x20))).length) c13), (11, .int .i64 (x20)), (31, .int .i64 (x20)), (32, .string (x4.1)), (33, .int .i64 ((x4.1.size : Int))), (34, .bool ((decide (x20 < (x4.1.size : Int))))), (37, .string (x4.1)), (38, .int .i64 (x20)), (39, .int .u8 ((byteAt x4.1 x20))), (40, .bool (((byteAt x4.1 x20) == 120))), (41, .slice A12 (((x19.set x20.toNat (byteAt x7.1 x20))).length) c13), (42, .int .i64 (x20)), (43, .string (x7.1)), (44, .int .i64 (x20)), (45, .int .u8 ((byteAt x7.1 x20)))] a := (hF.keep ⟨rfl, rfl, rfl, (by simp only [List.length_set] <;> rfl), rfl, rfl, rfl, rfl, rfl, rfl, rfl, rfl, rfl, (by simp only [List.length_set] <;> rfl), rfl, rfl, rfl, rfl, trivial⟩)
          refine sq_nil ?_
          obtain rfl := Option.some.inj h
          exact then_j ⟨(x19.set x20.toNat (byteAt x7.1 x20)), rfl, (hF.keep ⟨rfl, rfl, rfl, rfl, rfl, trivial⟩), hS⟩
         ·
          replace h := ifF he36 h
          refine wp_seq ?_
          refine wp_quiet rfl (by kernel_rfl) hS ?_
          refine qt_val (fun W hC => (v_move hF rfl)) hF (by decide) (fun a hF => ?_)
          refine qt_val (fun W hC => (v_move hF rfl)) hF (by decide) (fun a hF => ?_)
          obtain ⟨hb46, h⟩ := ifS h
          refine qt_val (fun W hC => (v_indexStr hF rfl rfl pu9 hb46.1 hb46.2)) hF (by decide) (fun a hF => ?_)
          refine qt_val (fun W hC => (v_neq hF rfl rfl)) hF (by decide) (fun a hF => ?_)
          refine qt_val (fun W hC => (v_move hF rfl)) hF (by decide) (fun a hF => ?_)
          refine qt_cut 8 (fun a => FH 64 [(4, .pointer (some (⟨b3, 0, none⟩))), (6, .string (x4.1)), (8, .string (x7.1)), (10, .slice A12 ((x19).length) c13), (11, .int .i64 (x20)), (59, .bool (((byteAt x7.1 x20) != 120) && ((byteAt x4.1 x20) != (byteAt x7.1 x20))))] a) (fun a hF => ?_) ?_
          ·
           refine qt_nil ?_
           intro W hC
           have hS := hC.2
           refine then_n ?_
           refine wp_if hF rfl (fun he48 => ?_) (fun he48 => ?_)
           ·
            replace h := ifT he48 h
            refine wp_seq ?_
            refine wp_reg ?_
            refine sq_val (v_build (parts := []) (out := TCube.enc TCube.zero) hF rfl rfl pz26 rfl pp26 rfl) hF (by decide) (fun a hF => ?_)
            refine sq_store (o := 0) (vs := TCube.enc TCube.zero) (cs' := TCube.enc TCube.zero) hF hS rfl rfl (i := 0) rfl rfl rfl ps26 (TCube.enc_one _) (Nat.le_of_ble_eq_true rfl) rfl (fun W hS => ?_)
            refine sq_val (v_assign hF rfl) hF (by decide) (fun a hF => ?_)
            refine sq_nil ?_
            refine then_n ?_
            refine wp_ret ?_
            refine then_r ?_
            refine blk_r ?_
            refine then_r ?_
            refine then_r ?_
            refine then_r ?_
            refine blk_r ?_
            refine then_r ?_
            refine then_r ?_
            obtain rfl := Option.some.inj h
            have h := hk35
            dsimp only at h
            obtain rfl := Option.some.inj h
            have h := hk31
            dsimp only at h
            obtain rfl := Option.some.inj h
            have h := hk23
            dsimp only at h
            obtain rfl := Option.some.inj h
            exact ret2 hF rfl (rv_cell (cs := TCube.enc TCube.zero) hF rfl pa26 ps26 (hS.bc (i := 0) rfl)) (rv_tmp hF rfl) ⟨_, rfl, rfl, (hS.keep (List.nil_sublist _) (List.nil_sublist _) trivial)⟩
           ·
            replace h := ifF he48 h
            refine wp_skip ?_
            obtain rfl := Option.some.inj h
            exact then_j ⟨x19, rfl, (hF.keep ⟨rfl, rfl, rfl, rfl, rfl, trivial⟩), hS⟩
          ·
           by_cases he47 : ((byteAt x7.1 x20) != 120) = true
           ·
            refine qt_yes hF rfl rfl he47 ?_
            refine qt_val (fun W hC => (v_move hF rfl)) hF (by decide) (fun a hF => ?_)
            refine qt_yes hF rfl rfl he47 ?_
            refine qt_val (fun W hC => (v_move hF rfl)) hF (by decide) (fun a hF => ?_)
            refine qt_yes hF rfl rfl he47 ?_
            refine qt_val (fun W hC => (v_indexStr hF rfl rfl pu9 hb32.1 hb32.2)) hF (by decide) (fun a hF => ?_)
            refine qt_yes hF rfl rfl he47 ?_
            refine qt_val (fun W hC => (v_move hF rfl)) hF (by decide) (fun a hF => ?_)
            refine qt_yes hF rfl rfl he47 ?_
            refine qt_val (fun W hC => (v_move hF rfl)) hF (by decide) (fun a hF => ?_)
            refine qt_yes hF rfl rfl he47 ?_
            refine qt_val (fun W hC => (v_indexStr hF rfl rfl pu9 hb46.1 hb46.2)) hF (by decide) (fun a hF => ?_)
            refine qt_yes hF rfl rfl he47 ?_
            refine qt_val (fun W hC => (v_neq hF rfl rfl)) hF (by decide) (fun a hF => ?_)
            refine qt_val (fun W hC => (v_pick_t hF rfl he47 rfl)) hF (by decide) (fun a hF => ?_)
            exact qt_nil (hF.keep ⟨rfl, rfl, rfl, rfl, rfl, (boolV (and_t he47)), trivial⟩)
           ·
            have he47 : ((byteAt x7.1 x20) != 120) = false := nB he47
            refine qt_no hF rfl rfl he47 (by decide) (fun a hF => ?_)
            refine qt_no hF rfl rfl he47 (by decide) (fun a hF => ?_)
            refine qt_no hF rfl rfl he47 (by decide) (fun a hF => ?_)
            refine qt_no hF rfl rfl he47 (by decide) (fun a hF => ?_)
            refine qt_no hF rfl rfl he47 (by decide) (fun a hF => ?_)
            refine qt_no hF rfl rfl he47 (by decide) (fun a hF => ?_)
            refine qt_no hF rfl rfl he47 (by decide) (fun a hF => ?_)
            refine qt_val (fun W hC => (v_pick_f hF rfl he47 rfl)) hF (by decide) (fun a hF => ?_)
            exact qt_nil (hF.keep ⟨rfl, rfl, rfl, rfl, rfl, (boolV (and_f he47)), trivial⟩)
      ·
       replace h := ifF he28 h
       refine wp_exit ?_
       refine then_x ?_
       refine then_x ?_
       refine blk_hit ?_
       obtain rfl := Option.some.inj h
       exact then_j ⟨x19, rfl, (hF.keep ⟨rfl, rfl, trivial⟩), hS⟩
  ·
   by_cases he10 : (!x4.2) = true
   ·
    refine sq_no hF rfl rfl he10 (by rintro x ⟨⟩; decide) (fun a hF => ?_)
    refine sq_no hF rfl rfl he10 (by rintro x ⟨⟩; decide) (fun a hF => ?_)
    refine sq_val (v_pick_t hF rfl he10 rfl) hF (by decide) (fun a hF => ?_)
    exact sq_nil (then_j ⟨(hF.keep ⟨rfl, rfl, rfl, (boolV (or_t he10)), trivial⟩), hS⟩)
   ·
    have he10 : (!x4.2) = false := nB he10
    refine sq_yes hF rfl rfl he10 ?_
    refine sq_val (v_move hF rfl) hF (by decide) (fun a hF => ?_)
    refine sq_yes hF rfl rfl he10 ?_
    refine sq_val (v_not hF rfl) hF (by decide) (fun a hF => ?_)
    refine sq_val (v_pick_f hF rfl he10 rfl) hF (by decide) (fun a hF => ?_)
    exact sq_nil (then_j ⟨(hF.keep ⟨rfl, rfl, rfl, (boolV (or_f he10)), trivial⟩), hS⟩)

theorem ok_ref04_Overlap (k : Nat) {M : Nat → Prop} {w0 : World} {u0 : TRule} {A0_0 : Option Addr} {c0_0 : Nat} {u1 : TRule} {A1_0 : Option Addr} {c1_0 : Nat} {o : Bool} (hS : St M w0 [] [] [fSl k_TAct A0_0 c0_0 u0.Acts, fSl k_TAct A1_0 c1_0 u1.Acts] w0) (h : ref04_Overlap k u0 u1 = some o) :
    Calls Try.prog 72 #[.agg (TRule.enc u0 A0_0 c0_0).toArray, .agg (TRule.enc u1 A1_0 c1_0).toArray] w0 fun e W' => ∃ v, e = .returned v ∧ (v = .bool (o) ∧ St M w0 [] [] [] W') := by
  unfold ref04_Overlap at h
  refine calls_start (args := [.agg (TRule.enc u0 A0_0 c0_0).toArray, .agg (TRule.enc u1 A1_0 c1_0).toArray]) Try.func72 rfl rfl (Nat.le_of_ble_eq_true rfl) (fun a hF => ?_)
  refine wp_seq ?_
  refine wp_reg ?_
  refine sq_box hF hS rfl rfl (by decide) (fun b1 a W hF hS => ?_)
  refine sq_box hF hS rfl rfl (by decide) (fun b2 a W hF hS => ?_)
  refine sq_val (v_assign hF rfl) hF (by decide) (fun a hF => ?_)
  refine sq_nil ?_
  refine then_n ?_
  refine wp_seq ?_
  refine wp_reg ?_
  refine sq_val (v_fieldAddr hF rfl pf65_0) hF (by decide) (fun a hF => ?_)
  refine sq_val (v_load (cs := TCube.enc u0.Match) hF rfl pa26 ps26 (cells_sub (vs := TCube.enc u0.Match) (hS.bc (i := 1) rfl) rfl rfl)) hF (by decide) (fun a hF => ?_)
  refine sq_val (v_fieldAddr hF rfl pf65_0) hF (by decide) (fun a hF => ?_)
  refine sq_val (v_load (cs := TCube.enc u1.Match) hF rfl pa26 ps26 (cells_sub (vs := TCube.enc u1.Match) (hS.bc (i := 0) rfl) rfl rfl)) hF (by decide) (fun a hF => ?_)
  obtain ⟨x3, hx4, h⟩ := bindS h
  refine sq_call hF pc13 rfl (by decide) (ok_ref01_Meet k (hS.enter trivial) hx4) (fun v W hR a hF => ?_)
  obtain ⟨rfl, hT5⟩ := hR
  have hS := hS.grow hT5.below
  refine sq_val (v_move hF rfl) hF (by decide) (fun a hF => ?_)
  refine sq_val (v_extract hF rfl rfl) hF (by decide) (fun a hF => ?_)
  refine sq_val (v_extract hF rfl rfl) hF (by decide) (fun a hF => ?_)
  refine sq_alloc hF hS pz26 rfl (by decide) (fun b6 a W hF hS => ?_)
  refine sq_store (o := 0) (vs := TCube.enc x3.1) (cs' := TCube.enc x3.1) hF hS rfl rfl (i := 0) rfl rfl rfl ps26 (TCube.enc_one _) (Nat.le_of_ble_eq_true rfl) rfl (fun W hS => ?_)
  refine sq_val (v_assign hF rfl) hF (by decide) (fun a hF => ?_)
  refine sq_nil ?_
  refine then_n ?_
  refine wp_seq ?_
  refine wp_reg ?_
  refine sq_val (v_fieldAddr hF rfl pf65_1) hF (by decide) (fun a hF => ?_)
  refine sq_val (v_load1 hF rfl pa3 (cells_sub (vs := [.int .i64 (u0.Prio)]) (hS.bc (i := 2) rfl) rfl rfl)) hF (by decide) (fun a hF => ?_)
  refine sq_val (v_fieldAddr hF rfl pf65_1) hF (by decide) (fun a hF => ?_)
  refine sq_val (v_load1 hF rfl pa3 (cells_sub (vs := [.int .i64 (u1.Prio)]) (hS.bc (i := 1) rfl) rfl rfl)) hF (by decide) (fun a hF => ?_)
  refine sq_val (v_eql hF rfl rfl) hF (by decide) (fun a hF => ?_)
  refine sq_val (v_move hF rfl) hF (by decide) (fun a hF => ?_)
  refine sq_cut 2 (fun a W => FH 23 [(22, .bool ((u0.Prio == u1.Prio) && x3.2))] a ∧ St M w0 [⟨b6, TCube.enc x3.1, 26⟩, ⟨b2, TRule.enc u1 A1_0 c1_0, 65⟩, ⟨b1, TRule.enc u0 A0_0 c0_0, 65⟩] [] [fSl k_TAct A0_0 c0_0 u0.Acts, fSl k_TAct A1_0 c1_0 u1.Acts] W) (fun a W hJ => ?_) ?_
  ·
   obtain ⟨hF, hS⟩ := hJ
   refine sq_val (v_assign hF rfl) hF (by decide) (fun a hF => ?_)
   refine sq_nil ?_
   refine then_n ?_
   refine wp_ret ?_
   obtain rfl := Option.some.inj h
   exact ret1 hF rfl (rv_tmp hF rfl) ⟨_, rfl, rfl, (hS.keep (List.nil_sublist _) (List.Sublist.refl _) trivial)⟩
  ·
   by_cases he7 : (u0.Prio == u1.Prio) = true
   ·
    refine sq_yes hF rfl rfl he7 ?_
    refine sq_val (v_move hF rfl) hF (by decide) (fun a hF => ?_)
    refine sq_val (v_pick_t hF rfl he7 rfl) hF (by decide) (fun a hF => ?_)
    exact sq_nil (then_j ⟨(hF.keep ⟨(boolV (and_t he7)), trivial⟩), hS⟩)
   ·
    have he7 : (u0.Prio == u1.Prio) = false := nB he7
    refine sq_no hF rfl rfl he7 (by rintro x ⟨⟩; decide) (fun a hF => ?_)
    refine sq_val (v_pick_f hF rfl he7 rfl) hF (by decide) (fun a hF => ?_)
    exact sq_nil (then_j ⟨(hF.keep ⟨(boolV (and_f he7)), trivial⟩), hS⟩)
end Go.Proofs.Ytangebngeeamoaa
