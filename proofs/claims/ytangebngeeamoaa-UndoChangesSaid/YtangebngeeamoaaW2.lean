/- What calls of the Go functions come to. -/
import Derived.Test.YtangebngeeamoaaW1
set_option linter.unusedVariables false
set_option linter.unusedSimpArgs false
set_option maxRecDepth 100000
set_option maxHeartbeats 4000000
namespace Go.Proofs.Ytangebngeeamoaa
open Go.RowKit Go.Pod
theorem ok_mods_span {M : Nat → Prop} {w0 : World} {u0 : Int} {u1 : Int} {o : Bool} (hS : St M w0 [] [] [] w0) (h : mods_span u0 u1 = some o) :
    Calls Try.prog 77 #[.int .i64 (u0), .int .i64 (u1)] w0 fun e W' => ∃ v, e = .returned v ∧ (v = .bool (o) ∧ St M w0 [] [] [] W') := by
  unfold mods_span at h
  refine calls_start (args := [.int .i64 (u0), .int .i64 (u1)]) Try.func77 rfl rfl (Nat.le_of_ble_eq_true rfl) (fun a hF => ?_)
  refine wp_seq ?_
  refine wp_reg ?_
  refine sq_val (v_assign hF rfl) hF (by decide) (fun a hF => ?_)
  refine sq_nil ?_
  refine then_n ?_
  refine wp_seq ?_
  refine wp_reg ?_
  refine sq_val (v_move hF rfl) hF (by decide) (fun a hF => ?_)
  refine sq_val (v_geq hF rfl rfl) hF (by decide) (fun a hF => ?_)
  refine sq_val (v_move hF rfl) hF (by decide) (fun a hF => ?_)
  refine sq_cut 4 (fun a W => FH 12 [(11, .bool ((decide (0 ≤ u0)) && (decide (u0 ≤ u1))))] a ∧ St M w0 [] [] [] W) (fun a W hJ => ?_) ?_
  ·
   obtain ⟨hF, hS⟩ := hJ
   refine sq_val (v_assign hF rfl) hF (by decide) (fun a hF => ?_)
   refine sq_nil ?_
   refine then_n ?_
   refine wp_ret ?_
   obtain rfl := Option.some.inj h
   exact ret1 hF rfl (rv_tmp hF rfl) ⟨_, rfl, rfl, hS⟩
  ·
   by_cases he1 : (decide (0 ≤ u0)) = true
   ·
    refine sq_yes hF rfl rfl he1 ?_
    refine sq_val (v_move hF rfl) hF (by decide) (fun a hF => ?_)
    refine sq_yes hF rfl rfl he1 ?_
    refine sq_val (v_move hF rfl) hF (by decide) (fun a hF => ?_)
    refine sq_yes hF rfl rfl he1 ?_
    refine sq_val (v_leq hF rfl rfl) hF (by decide) (fun a hF => ?_)
    refine sq_val (v_pick_t hF rfl he1 rfl) hF (by decide) (fun a hF => ?_)
    exact sq_nil (then_j ⟨(hF.keep ⟨(boolV (and_t he1)), trivial⟩), hS⟩)
   ·
    have he1 : (decide (0 ≤ u0)) = false := nB he1
    refine sq_no hF rfl rfl he1 (by rintro x ⟨⟩; decide) (fun a hF => ?_)
    refine sq_no hF rfl rfl he1 (by rintro x ⟨⟩; decide) (fun a hF => ?_)
    refine sq_no hF rfl rfl he1 (by rintro x ⟨⟩; decide) (fun a hF => ?_)
    refine sq_val (v_pick_f hF rfl he1 rfl) hF (by decide) (fun a hF => ?_)
    exact sq_nil (then_j ⟨(hF.keep ⟨(boolV (and_f he1)), trivial⟩), hS⟩)

theorem ok_mods_plain {M : Nat → Prop} {w0 : World} {u0 : TMod} {A0_0 : Option Addr} {c0_0 : Nat} {o : Bool} (hS : St M w0 [] [] [fSl k_TAct A0_0 c0_0 u0.Acts] w0) (h : mods_plain u0 = some o) :
    Calls Try.prog 78 #[.agg (TMod.enc u0 A0_0 c0_0).toArray] w0 fun e W' => ∃ v, e = .returned v ∧ (v = .bool (o) ∧ St M w0 [] [] [] W') := by
  unfold mods_plain at h
  refine calls_start (args := [.agg (TMod.enc u0 A0_0 c0_0).toArray]) Try.func78 rfl rfl (Nat.le_of_ble_eq_true rfl) (fun a hF => ?_)
  refine wp_seq ?_
  refine wp_reg ?_
  refine sq_box hF hS rfl rfl (by decide) (fun b1 a W hF hS => ?_)
  refine sq_val (v_assign hF rfl) hF (by decide) (fun a hF => ?_)
  refine sq_nil ?_
  refine then_n ?_
  refine wp_seq ?_
  refine wp_reg ?_
  refine sq_val (v_fieldAddr hF rfl pf40_4) hF (by decide) (fun a hF => ?_)
  refine sq_val (v_load1 hF rfl pa3 (cells_sub (vs := [.int .i64 (u0.Idle)]) (hS.bc (i := 0) rfl) rfl rfl)) hF (by decide) (fun a hF => ?_)
  refine sq_val (v_eql hF rfl rfl) hF (by decide) (fun a hF => ?_)
  refine sq_val (v_move hF rfl) hF (by decide) (fun a hF => ?_)
  refine sq_cut 4 (fun a W => FH 16 [(1, .pointer (some (⟨b1, 0, none⟩))), (10, .bool ((u0.Idle == 0) && (u0.Hard == 0)))] a ∧ St M w0 [⟨b1, TMod.enc u0 A0_0 c0_0, 40⟩] [] [fSl k_TAct A0_0 c0_0 u0.Acts] W) (fun a W hJ => ?_) ?_
  ·
   obtain ⟨hF, hS⟩ := hJ
   refine sq_val (v_move hF rfl) hF (by decide) (fun a hF => ?_)
   refine sq_cut 4 (fun a W => FH 16 [(15, .bool (((u0.Idle == 0) && (u0.Hard == 0)) && (!u0.Check)))] a ∧ St M w0 [⟨b1, TMod.enc u0 A0_0 c0_0, 40⟩] [] [fSl k_TAct A0_0 c0_0 u0.Acts] W) (fun a W hJ => ?_) ?_
   ·
    obtain ⟨hF, hS⟩ := hJ
    refine sq_val (v_assign hF rfl) hF (by decide) (fun a hF => ?_)
    refine sq_nil ?_
    refine then_n ?_
    refine wp_ret ?_
    obtain rfl := Option.some.inj h
    exact ret1 hF rfl (rv_tmp hF rfl) ⟨_, rfl, rfl, (hS.keep (List.nil_sublist _) (List.Sublist.refl _) trivial)⟩
   ·
    by_cases he3 : ((u0.Idle == 0) && (u0.Hard == 0)) = true
    ·
     refine sq_yes hF rfl rfl he3 ?_
     refine sq_val (v_fieldAddr hF rfl pf40_7) hF (by decide) (fun a hF => ?_)
     refine sq_yes hF rfl rfl he3 ?_
     refine sq_val (v_load1 hF rfl pa4 (cells_sub (vs := [.bool (u0.Check)]) (hS.bc (i := 0) rfl) rfl rfl)) hF (by decide) (fun a hF => ?_)
     refine sq_yes hF rfl rfl he3 ?_
     refine sq_val (v_not hF rfl) hF (by decide) (fun a hF => ?_)
     refine sq_val (v_pick_t hF rfl he3 rfl) hF (by decide) (fun a hF => ?_)
     exact sq_nil (then_j ⟨(hF.keep ⟨(boolV (and_t he3)), trivial⟩), hS⟩)
    ·
     have he3 : ((u0.Idle == 0) && (u0.Hard == 0)) = false := nB he3
     refine sq_no hF rfl rfl he3 (by rintro x ⟨⟩; decide) (fun a hF => ?_)
     refine sq_no hF rfl rfl he3 (by rintro x ⟨⟩; decide) (fun a hF => ?_)
     refine sq_no hF rfl rfl he3 (by rintro x ⟨⟩; decide) (fun a hF => ?_)
     refine sq_val (v_pick_f hF rfl he3 rfl) hF (by decide) (fun a hF => ?_)
     exact sq_nil (then_j ⟨(hF.keep ⟨(boolV (and_f he3)), trivial⟩), hS⟩)
  ·
   by_cases he2 : (u0.Idle == 0) = true
   ·
    refine sq_yes hF rfl rfl he2 ?_
    refine sq_val (v_fieldAddr hF rfl pf40_5) hF (by decide) (fun a hF => ?_)
    refine sq_yes hF rfl rfl he2 ?_
    refine sq_val (v_load1 hF rfl pa3 (cells_sub (vs := [.int .i64 (u0.Hard)]) (hS.bc (i := 0) rfl) rfl rfl)) hF (by decide) (fun a hF => ?_)
    refine sq_yes hF rfl rfl he2 ?_
    refine sq_val (v_eql hF rfl rfl) hF (by decide) (fun a hF => ?_)
    refine sq_val (v_pick_t hF rfl he2 rfl) hF (by decide) (fun a hF => ?_)
    exact sq_nil (then_j ⟨(hF.keep ⟨rfl, (boolV (and_t he2)), trivial⟩), hS⟩)
   ·
    have he2 : (u0.Idle == 0) = false := nB he2
    refine sq_no hF rfl rfl he2 (by rintro x ⟨⟩; decide) (fun a hF => ?_)
    refine sq_no hF rfl rfl he2 (by rintro x ⟨⟩; decide) (fun a hF => ?_)
    refine sq_no hF rfl rfl he2 (by rintro x ⟨⟩; decide) (fun a hF => ?_)
    refine sq_val (v_pick_f hF rfl he2 rfl) hF (by decide) (fun a hF => ?_)
    exact sq_nil (then_j ⟨(hF.keep ⟨rfl, (boolV (and_f he2)), trivial⟩), hS⟩)

theorem ok_mods_Sound (k : Nat) {M : Nat → Prop} {w0 : World} {u0 : TMod} {A0_0 : Option Addr} {c0_0 : Nat} {o : Bool} (hS : St M w0 [] [] [fSl k_TAct A0_0 c0_0 u0.Acts] w0) (h : mods_Sound k u0 = some o) :
    Calls Try.prog 27 #[.agg (TMod.enc u0 A0_0 c0_0).toArray] w0 fun e W' => ∃ v, e = .returned v ∧ (v = .bool (o) ∧ St M w0 [] [] [] W') := by
  unfold mods_Sound at h
  refine calls_start (args := [.agg (TMod.enc u0 A0_0 c0_0).toArray]) Try.func27 rfl rfl (Nat.le_of_ble_eq_true rfl) (fun a hF => ?_)
  refine wp_seq ?_
  refine wp_reg ?_
  refine sq_box hF hS rfl rfl (by decide) (fun b1 a W hF hS => ?_)
  refine sq_val (v_assign hF rfl) hF (by decide) (fun a hF => ?_)
  refine sq_nil ?_
  refine then_n ?_
  refine wp_seq ?_
  refine wp_seq ?_
  refine wp_reg ?_
  refine sq_val (v_fieldAddr hF rfl pf40_1) hF (by decide) (fun a hF => ?_)
  refine sq_val (v_load (cs := TCube.enc u0.Match) hF rfl pa26 ps26 (cells_sub (vs := TCube.enc u0.Match) (hS.bc (i := 0) rfl) rfl rfl)) hF (by decide) (fun a hF => ?_)
  obtain ⟨x2, hx3, h⟩ := bindS h
  refine sq_call hF pc58 rfl (by decide) (ok_cube_Sound k (hS.enter trivial) hx3) (fun v W hR a hF => ?_)
  obtain ⟨rfl, hT4⟩ := hR
  have hS := hS.grow hT4.below
  refine sq_val (v_not hF rfl) hF (by decide) (fun a hF => ?_)
  refine sq_val (v_move hF rfl) hF (by decide) (fun a hF => ?_)
  obtain ⟨x6, h, hk8⟩ := bindS h
  refine sq_cut 5 (fun a W => FH 75 [(1, .pointer (some (⟨b1, 0, none⟩))), (12, .bool x6)] a ∧ St M w0 [⟨b1, TMod.enc u0 A0_0 c0_0, 40⟩] [] [fSl k_TAct A0_0 c0_0 u0.Acts] W) (fun a W hJ => ?_) ?_
  ·
   have h := hk8
   obtain ⟨hF, hS⟩ := hJ
   refine sq_val (v_move hF rfl) hF (by decide) (fun a hF => ?_)
   obtain ⟨x13, h, hk15⟩ := bindS h
   refine sq_cut 5 (fun a W => FH 75 [(1, .pointer (some (⟨b1, 0, none⟩))), (18, .bool x13)] a ∧ St M w0 [⟨b1, TMod.enc u0 A0_0 c0_0, 40⟩] [] [fSl k_TAct A0_0 c0_0 u0.Acts] W) (fun a W hJ => ?_) ?_
   ·
    have h := hk15
    obtain ⟨hF, hS⟩ := hJ
    refine sq_val (v_move hF rfl) hF (by decide) (fun a hF => ?_)
    obtain ⟨x20, h, hk22⟩ := bindS h
    refine sq_cut 5 (fun a W => FH 75 [(1, .pointer (some (⟨b1, 0, none⟩))), (24, .bool x20)] a ∧ St M w0 [⟨b1, TMod.enc u0 A0_0 c0_0, 40⟩] [] [fSl k_TAct A0_0 c0_0 u0.Acts] W) (fun a W hJ => ?_) ?_
    ·
     have h := hk22
     obtain ⟨hF, hS⟩ := hJ
     refine sq_nil ?_
     refine then_n ?_
     refine wp_if hF rfl (fun he26 => ?_) (fun he26 => ?_)
     ·
      replace h := ifT he26 h
      refine wp_seq ?_
      refine wp_reg ?_
      refine sq_val (v_assign hF rfl) hF (by decide) (fun a hF => ?_)
      refine sq_nil ?_
      refine then_n ?_
      refine wp_ret ?_
      refine then_r ?_
      obtain rfl := Option.some.inj h
      exact ret1 hF rfl (rv_tmp hF rfl) ⟨_, rfl, rfl, (hS.keep (List.nil_sublist _) (List.Sublist.refl _) trivial)⟩
     ·
      replace h := ifF he26 h
      refine wp_skip ?_
      refine then_n ?_
      refine wp_seq ?_
      refine wp_seq ?_
      refine wp_reg ?_
      refine sq_val (v_fieldAddr hF rfl pf40_0) hF (by decide) (fun a hF => ?_)
      refine sq_val (v_load1 hF rfl pa3 (cells_sub (vs := [.int .i64 (u0.Kind)]) (hS.bc (i := 0) rfl) rfl rfl)) hF (by decide) (fun a hF => ?_)
      refine sq_nil ?_
      refine then_n ?_
      refine wp_block ?_
      refine wp_seq ?_
      refine wp_reg ?_
      refine sq_val (v_eql hF rfl rfl) hF (by decide) (fun a hF => ?_)
      refine sq_val (v_assign hF rfl) hF (by decide) (fun a hF => ?_)
      refine sq_nil ?_
      refine then_n ?_
      refine wp_if hF rfl (fun he27 => ?_) (fun he27 => ?_)
      ·
       replace h := ifT he27 h
       refine wp_seq ?_
       refine wp_reg ?_
       refine sq_val (v_fieldAddr hF rfl pf40_4) hF (by decide) (fun a hF => ?_)
       refine sq_val (v_load1 hF rfl pa3 (cells_sub (vs := [.int .i64 (u0.Idle)]) (hS.bc (i := 0) rfl) rfl rfl)) hF (by decide) (fun a hF => ?_)
       obtain ⟨x28, hx29, h⟩ := bindS h
       refine sq_call hF pc77 rfl (by decide) (ok_mods_span (hS.enter trivial) hx29) (fun v W hR a hF => ?_)
       obtain ⟨rfl, hT30⟩ := hR
       have hS := hS.grow hT30.below
       refine sq_val (v_move hF rfl) hF (by decide) (fun a hF => ?_)
       obtain ⟨x32, h, hk34⟩ := bindS h
       refine sq_cut 4 (fun a W => FH 75 [(36, .bool x32)] a ∧ St M w0 [⟨b1, TMod.enc u0 A0_0 c0_0, 40⟩] [] [fSl k_TAct A0_0 c0_0 u0.Acts] W) (fun a W hJ => ?_) ?_
       ·
        have h := hk34
        obtain ⟨hF, hS⟩ := hJ
        refine sq_val (v_assign hF rfl) hF (by decide) (fun a hF => ?_)
        refine sq_nil ?_
        refine then_n ?_
        refine wp_ret ?_
        refine blk_r ?_
        refine then_r ?_
        obtain rfl := Option.some.inj h
        exact ret1 hF rfl (rv_tmp hF rfl) ⟨_, rfl, rfl, (hS.keep (List.nil_sublist _) (List.Sublist.refl _) trivial)⟩
       ·
        by_cases he31 : x28 = true
        ·
         replace h := ifT he31 h
         refine sq_yes hF rfl rfl he31 ?_
         refine sq_val (v_fieldAddr hF rfl pf40_5) hF (by decide) (fun a hF => ?_)
         refine sq_yes hF rfl rfl he31 ?_
         refine sq_val (v_load1 hF rfl pa3 (cells_sub (vs := [.int .i64 (u0.Hard)]) (hS.bc (i := 0) rfl) rfl rfl)) hF (by decide) (fun a hF => ?_)
         refine sq_yes hF rfl rfl he31 ?_
         obtain ⟨x35, hx36, h⟩ := bindS h
         refine sq_call hF pc77 rfl (by decide) (ok_mods_span (hS.enter trivial) hx36) (fun v W hR a hF => ?_)
         obtain ⟨rfl, hT37⟩ := hR
         have hS := hS.grow hT37.below
         refine sq_val (v_pick_t hF rfl he31 rfl) hF (by decide) (fun a hF => ?_)
         obtain rfl := Option.some.inj h
         exact sq_nil (then_j ⟨(hF.keep ⟨rfl, trivial⟩), hS⟩)
        ·
         have he31 : x28 = false := nB he31
         replace h := ifF he31 h
         refine sq_no hF rfl rfl he31 (by rintro x ⟨⟩; decide) (fun a hF => ?_)
         refine sq_no hF rfl rfl he31 (by rintro x ⟨⟩; decide) (fun a hF => ?_)
         refine sq_no hF rfl rfl he31 (by rintro x ⟨⟩; decide) (fun a hF => ?_)
         refine sq_val (v_pick_f hF rfl he31 rfl) hF (by decide) (fun a hF => ?_)
         obtain rfl := Option.some.inj h
         exact sq_nil (then_j ⟨(hF.keep ⟨rfl, trivial⟩), hS⟩)
      ·
       replace h := ifF he27 h
       refine wp_seq ?_
       refine wp_reg ?_
       refine sq_val (v_eql hF rfl rfl) hF (by decide) (fun a hF => ?_)
       refine sq_val (v_assign hF rfl) hF (by decide) (fun a hF => ?_)
       refine sq_nil ?_
       refine then_n ?_
       refine wp_if hF rfl (fun he38 => ?_) (fun he38 => ?_)
       ·
        replace h := ifT he38 h
        refine wp_seq ?_
        refine wp_reg ?_
        refine sq_val (v_load (cs := TMod.enc u0 A0_0 c0_0) hF rfl pa40 ps40 (hS.bc (i := 0) rfl)) hF (by decide) (fun a hF => ?_)
        obtain ⟨x39, hx40, h⟩ := bindS h
        refine sq_call hF pc78 rfl (by decide) (ok_mods_plain (hS.enter ⟨⟨0, rfl⟩, trivial⟩) hx40) (fun v W hR a hF => ?_)
        obtain ⟨rfl, hT41⟩ := hR
        have hS := hS.grow hT41.below
        refine sq_val (v_move hF rfl) hF (by decide) (fun a hF => ?_)
        refine sq_cut 4 (fun a W => FH 75 [(45, .bool (x39 && (u0.Prio == 0)))] a ∧ St M w0 [⟨b1, TMod.enc u0 A0_0 c0_0, 40⟩] [] [fSl k_TAct A0_0 c0_0 u0.Acts] W) (fun a W hJ => ?_) ?_
        ·
         obtain ⟨hF, hS⟩ := hJ
         refine sq_val (v_assign hF rfl) hF (by decide) (fun a hF => ?_)
         refine sq_nil ?_
         refine then_n ?_
         refine wp_ret ?_
         refine blk_r ?_
         refine then_r ?_
         obtain rfl := Option.some.inj h
         exact ret1 hF rfl (rv_tmp hF rfl) ⟨_, rfl, rfl, (hS.keep (List.nil_sublist _) (List.Sublist.refl _) trivial)⟩
        ·
         by_cases he42 : x39 = true
         ·
          refine sq_yes hF rfl rfl he42 ?_
          refine sq_val (v_fieldAddr hF rfl pf40_2) hF (by decide) (fun a hF => ?_)
          refine sq_yes hF rfl rfl he42 ?_
          refine sq_val (v_load1 hF rfl pa3 (cells_sub (vs := [.int .i64 (u0.Prio)]) (hS.bc (i := 0) rfl) rfl rfl)) hF (by decide) (fun a hF => ?_)
          refine sq_yes hF rfl rfl he42 ?_
          refine sq_val (v_eql hF rfl rfl) hF (by decide) (fun a hF => ?_)
          refine sq_val (v_pick_t hF rfl he42 rfl) hF (by decide) (fun a hF => ?_)
          exact sq_nil (then_j ⟨(hF.keep ⟨(boolV (and_t he42)), trivial⟩), hS⟩)
         ·
          have he42 : x39 = false := nB he42
          refine sq_no hF rfl rfl he42 (by rintro x ⟨⟩; decide) (fun a hF => ?_)
          refine sq_no hF rfl rfl he42 (by rintro x ⟨⟩; decide) (fun a hF => ?_)
          refine sq_no hF rfl rfl he42 (by rintro x ⟨⟩; decide) (fun a hF => ?_)
          refine sq_val (v_pick_f hF rfl he42 rfl) hF (by decide) (fun a hF => ?_)
          exact sq_nil (then_j ⟨(hF.keep ⟨(boolV (and_f he42)), trivial⟩), hS⟩)
       ·
        replace h := ifF he38 h
        refine wp_seq ?_
        refine wp_reg ?_
        refine sq_val (v_eql hF rfl rfl) hF (by decide) (fun a hF => ?_)
        refine sq_val (v_assign hF rfl) hF (by decide) (fun a hF => ?_)
        refine sq_nil ?_
        refine then_n ?_
        refine wp_if hF rfl (fun he43 => ?_) (fun he43 => ?_)
        ·
         replace h := ifT he43 h
         refine wp_seq ?_
         refine wp_reg ?_
         refine sq_val (v_load (cs := TMod.enc u0 A0_0 c0_0) hF rfl pa40 ps40 (hS.bc (i := 0) rfl)) hF (by decide) (fun a hF => ?_)
         obtain ⟨x44, hx45, h⟩ := bindS h
         refine sq_call hF pc78 rfl (by decide) (ok_mods_plain (hS.enter ⟨⟨0, rfl⟩, trivial⟩) hx45) (fun v W hR a hF => ?_)
         obtain ⟨rfl, hT46⟩ := hR
         have hS := hS.grow hT46.below
         refine sq_val (v_move hF rfl) hF (by decide) (fun a hF => ?_)
         refine sq_cut 4 (fun a W => FH 75 [(1, .pointer (some (⟨b1, 0, none⟩))), (54, .bool (x44 && (u0.Prio == 0)))] a ∧ St M w0 [⟨b1, TMod.enc u0 A0_0 c0_0, 40⟩] [] [fSl k_TAct A0_0 c0_0 u0.Acts] W) (fun a W hJ => ?_) ?_
         ·
          obtain ⟨hF, hS⟩ := hJ
          refine sq_val (v_move hF rfl) hF (by decide) (fun a hF => ?_)
          refine sq_cut 5 (fun a W => FH 75 [(60, .bool ((x44 && (u0.Prio == 0)) && ((u0.Acts.length : Int) == 0)))] a ∧ St M w0 [⟨b1, TMod.enc u0 A0_0 c0_0, 40⟩] [] [fSl k_TAct A0_0 c0_0 u0.Acts] W) (fun a W hJ => ?_) ?_
          ·
           obtain ⟨hF, hS⟩ := hJ
           refine sq_val (v_assign hF rfl) hF (by decide) (fun a hF => ?_)
           refine sq_nil ?_
           refine then_n ?_
           refine wp_ret ?_
           refine blk_r ?_
           refine then_r ?_
           obtain rfl := Option.some.inj h
           exact ret1 hF rfl (rv_tmp hF rfl) ⟨_, rfl, rfl, (hS.keep (List.nil_sublist _) (List.Sublist.refl _) trivial)⟩
          ·
           by_cases he48 : (x44 && (u0.Prio == 0)) = true
           ·
            refine sq_yes hF rfl rfl he48 ?_
            refine sq_val (v_fieldAddr hF rfl pf40_3) hF (by decide) (fun a hF => ?_)
            refine sq_yes hF rfl rfl he48 ?_
            refine sq_val (v_load1 hF rfl pa38 (cells_sub (vs := [.slice A0_0 ((u0.Acts).length) c0_0]) (hS.bc (i := 0) rfl) rfl rfl)) hF (by decide) (fun a hF => ?_)
            refine sq_yes hF rfl rfl he48 ?_
            refine sq_val (v_len hF rfl pu38) hF (by decide) (fun a hF => ?_)
            refine sq_yes hF rfl rfl he48 ?_
            refine sq_val (v_eql hF rfl rfl) hF (by decide) (fun a hF => ?_)
            refine sq_val (v_pick_t hF rfl he48 rfl) hF (by decide) (fun a hF => ?_)
            exact sq_nil (then_j ⟨(hF.keep ⟨(boolV (and_t he48)), trivial⟩), hS⟩)
           ·
            have he48 : (x44 && (u0.Prio == 0)) = false := nB he48
            refine sq_no hF rfl rfl he48 (by rintro x ⟨⟩; decide) (fun a hF => ?_)
            refine sq_no hF rfl rfl he48 (by rintro x ⟨⟩; decide) (fun a hF => ?_)
            refine sq_no hF rfl rfl he48 (by rintro x ⟨⟩; decide) (fun a hF => ?_)
            refine sq_no hF rfl rfl he48 (by rintro x ⟨⟩; decide) (fun a hF => ?_)
            refine sq_val (v_pick_f hF rfl he48 rfl) hF (by decide) (fun a hF => ?_)
            exact sq_nil (then_j ⟨(hF.keep ⟨(boolV (and_f he48)), trivial⟩), hS⟩)
         ·
          by_cases he47 : x44 = true
          ·
           refine sq_yes hF rfl rfl he47 ?_
           refine sq_val (v_fieldAddr hF rfl pf40_2) hF (by decide) (fun a hF => ?_)
           refine sq_yes hF rfl rfl he47 ?_
           refine sq_val (v_load1 hF rfl pa3 (cells_sub (vs := [.int .i64 (u0.Prio)]) (hS.bc (i := 0) rfl) rfl rfl)) hF (by decide) (fun a hF => ?_)
           refine sq_yes hF rfl rfl he47 ?_
           refine sq_val (v_eql hF rfl rfl) hF (by decide) (fun a hF => ?_)
           refine sq_val (v_pick_t hF rfl he47 rfl) hF (by decide) (fun a hF => ?_)
           exact sq_nil (then_j ⟨(hF.keep ⟨rfl, (boolV (and_t he47)), trivial⟩), hS⟩)
          ·
           have he47 : x44 = false := nB he47
           refine sq_no hF rfl rfl he47 (by rintro x ⟨⟩; decide) (fun a hF => ?_)
           refine sq_no hF rfl rfl he47 (by rintro x ⟨⟩; decide) (fun a hF => ?_)
           refine sq_no hF rfl rfl he47 (by rintro x ⟨⟩; decide) (fun a hF => ?_)
           refine sq_val (v_pick_f hF rfl he47 rfl) hF (by decide) (fun a hF => ?_)
           exact sq_nil (then_j ⟨(hF.keep ⟨rfl, (boolV (and_f he47)), trivial⟩), hS⟩)
        ·
         replace h := ifF he43 h
         refine wp_seq ?_
         refine wp_reg ?_
         refine sq_val (v_eql hF rfl rfl) hF (by decide) (fun a hF => ?_)
         refine sq_val (v_assign hF rfl) hF (by decide) (fun a hF => ?_)
         refine sq_nil ?_
         refine then_n ?_
         refine wp_if hF rfl (fun he49 => ?_) (fun he49 => ?_)
         ·
          replace h := ifT he49 h
          refine wp_seq ?_
          refine wp_reg ?_
          refine sq_val (v_load (cs := TMod.enc u0 A0_0 c0_0) hF rfl pa40 ps40 (hS.bc (i := 0) rfl)) hF (by decide) (fun a hF => ?_)
          obtain ⟨x50, hx51, h⟩ := bindS h
          refine sq_call hF pc78 rfl (by decide) (ok_mods_plain (hS.enter ⟨⟨0, rfl⟩, trivial⟩) hx51) (fun v W hR a hF => ?_)
          obtain ⟨rfl, hT52⟩ := hR
          have hS := hS.grow hT52.below
          refine sq_val (v_assign hF rfl) hF (by decide) (fun a hF => ?_)
          refine sq_nil ?_
          refine then_n ?_
          refine wp_ret ?_
          refine blk_r ?_
          refine then_r ?_
          obtain rfl := Option.some.inj h
          exact ret1 hF rfl (rv_tmp hF rfl) ⟨_, rfl, rfl, (hS.keep (List.nil_sublist _) (List.Sublist.refl _) trivial)⟩
         ·
          replace h := ifF he49 h
          refine wp_seq ?_
          refine wp_reg ?_
          refine sq_val (v_eql hF rfl rfl) hF (by decide) (fun a hF => ?_)
          refine sq_val (v_assign hF rfl) hF (by decide) (fun a hF => ?_)
          refine sq_nil ?_
          refine then_n ?_
          refine wp_if hF rfl (fun he53 => ?_) (fun he53 => ?_)
          ·
           replace h := ifT he53 h
           refine wp_seq ?_
           refine wp_reg ?_
           refine sq_val (v_load (cs := TMod.enc u0 A0_0 c0_0) hF rfl pa40 ps40 (hS.bc (i := 0) rfl)) hF (by decide) (fun a hF => ?_)
           obtain ⟨x54, hx55, h⟩ := bindS h
           refine sq_call hF pc78 rfl (by decide) (ok_mods_plain (hS.enter ⟨⟨0, rfl⟩, trivial⟩) hx55) (fun v W hR a hF => ?_)
           obtain ⟨rfl, hT56⟩ := hR
           have hS := hS.grow hT56.below
           refine sq_val (v_move hF rfl) hF (by decide) (fun a hF => ?_)
           refine sq_cut 5 (fun a W => FH 75 [(74, .bool (x54 && ((u0.Acts.length : Int) == 0)))] a ∧ St M w0 [⟨b1, TMod.enc u0 A0_0 c0_0, 40⟩] [] [fSl k_TAct A0_0 c0_0 u0.Acts] W) (fun a W hJ => ?_) ?_
           ·
            obtain ⟨hF, hS⟩ := hJ
            refine sq_val (v_assign hF rfl) hF (by decide) (fun a hF => ?_)
            refine sq_nil ?_
            refine then_n ?_
            refine wp_ret ?_
            refine blk_r ?_
            refine then_r ?_
            obtain rfl := Option.some.inj h
            exact ret1 hF rfl (rv_tmp hF rfl) ⟨_, rfl, rfl, (hS.keep (List.nil_sublist _) (List.Sublist.refl _) trivial)⟩
           ·
            by_cases he57 : x54 = true
            ·
             refine sq_yes hF rfl rfl he57 ?_
             refine sq_val (v_fieldAddr hF rfl pf40_3) hF (by decide) (fun a hF => ?_)
             refine sq_yes hF rfl rfl he57 ?_
             refine sq_val (v_load1 hF rfl pa38 (cells_sub (vs := [.slice A0_0 ((u0.Acts).length) c0_0]) (hS.bc (i := 0) rfl) rfl rfl)) hF (by decide) (fun a hF => ?_)
             refine sq_yes hF rfl rfl he57 ?_
             refine sq_val (v_len hF rfl pu38) hF (by decide) (fun a hF => ?_)
             refine sq_yes hF rfl rfl he57 ?_
             refine sq_val (v_eql hF rfl rfl) hF (by decide) (fun a hF => ?_)
             refine sq_val (v_pick_t hF rfl he57 rfl) hF (by decide) (fun a hF => ?_)
             exact sq_nil (then_j ⟨(hF.keep ⟨(boolV (and_t he57)), trivial⟩), hS⟩)
            ·
             have he57 : x54 = false := nB he57
             refine sq_no hF rfl rfl he57 (by rintro x ⟨⟩; decide) (fun a hF => ?_)
             refine sq_no hF rfl rfl he57 (by rintro x ⟨⟩; decide) (fun a hF => ?_)
             refine sq_no hF rfl rfl he57 (by rintro x ⟨⟩; decide) (fun a hF => ?_)
             refine sq_no hF rfl rfl he57 (by rintro x ⟨⟩; decide) (fun a hF => ?_)
             refine sq_val (v_pick_f hF rfl he57 rfl) hF (by decide) (fun a hF => ?_)
             exact sq_nil (then_j ⟨(hF.keep ⟨(boolV (and_f he57)), trivial⟩), hS⟩)
          ·
           replace h := ifF he53 h
           refine wp_skip ?_
           refine blk_n ?_
           refine then_n ?_
           refine wp_seq ?_
           refine wp_reg ?_
           refine sq_val (v_assign hF rfl) hF (by decide) (fun a hF => ?_)
           refine sq_nil ?_
           refine then_n ?_
           refine wp_ret ?_
           obtain rfl := Option.some.inj h
           exact ret1 hF rfl (rv_tmp hF rfl) ⟨_, rfl, rfl, (hS.keep (List.nil_sublist _) (List.Sublist.refl _) trivial)⟩
    ·
     by_cases he19 : x13 = true
     ·
      replace h := ifT he19 h
      refine sq_no hF rfl rfl he19 (by rintro x ⟨⟩; decide) (fun a hF => ?_)
      refine sq_no hF rfl rfl he19 (by rintro x ⟨⟩; decide) (fun a hF => ?_)
      refine sq_no hF rfl rfl he19 (by rintro x ⟨⟩; decide) (fun a hF => ?_)
      refine sq_no hF rfl rfl he19 (by rintro x ⟨⟩; decide) (fun a hF => ?_)
      refine sq_val (v_pick_t hF rfl he19 rfl) hF (by decide) (fun a hF => ?_)
      obtain rfl := Option.some.inj h
      exact sq_nil (then_j ⟨(hF.keep ⟨rfl, rfl, trivial⟩), hS⟩)
     ·
      have he19 : x13 = false := nB he19
      replace h := ifF he19 h
      refine sq_yes hF rfl rfl he19 ?_
      refine sq_val (v_fieldAddr hF rfl pf40_6) hF (by decide) (fun a hF => ?_)
      refine sq_yes hF rfl rfl he19 ?_
      refine sq_val (v_load1 hF rfl pa3 (cells_sub (vs := [.int .i64 (u0.Owner)]) (hS.bc (i := 0) rfl) rfl rfl)) hF (by decide) (fun a hF => ?_)
      refine sq_yes hF rfl rfl he19 ?_
      obtain ⟨x23, hx24, h⟩ := bindS h
      refine sq_call hF pc77 rfl (by decide) (ok_mods_span (hS.enter trivial) hx24) (fun v W hR a hF => ?_)
      obtain ⟨rfl, hT25⟩ := hR
      have hS := hS.grow hT25.below
      refine sq_yes hF rfl rfl he19 ?_
      refine sq_val (v_not hF rfl) hF (by decide) (fun a hF => ?_)
      refine sq_val (v_pick_f hF rfl he19 rfl) hF (by decide) (fun a hF => ?_)
      obtain rfl := Option.some.inj h
      exact sq_nil (then_j ⟨(hF.keep ⟨rfl, rfl, trivial⟩), hS⟩)
   ·
    by_cases he12 : x6 = true
    ·
     replace h := ifT he12 h
     refine sq_no hF rfl rfl he12 (by rintro x ⟨⟩; decide) (fun a hF => ?_)
     refine sq_no hF rfl rfl he12 (by rintro x ⟨⟩; decide) (fun a hF => ?_)
     refine sq_no hF rfl rfl he12 (by rintro x ⟨⟩; decide) (fun a hF => ?_)
     refine sq_no hF rfl rfl he12 (by rintro x ⟨⟩; decide) (fun a hF => ?_)
     refine sq_val (v_pick_t hF rfl he12 rfl) hF (by decide) (fun a hF => ?_)
     obtain rfl := Option.some.inj h
     exact sq_nil (then_j ⟨(hF.keep ⟨rfl, rfl, trivial⟩), hS⟩)
    ·
     have he12 : x6 = false := nB he12
     replace h := ifF he12 h
     refine sq_yes hF rfl rfl he12 ?_
     refine sq_val (v_fieldAddr hF rfl pf40_2) hF (by decide) (fun a hF => ?_)
     refine sq_yes hF rfl rfl he12 ?_
     refine sq_val (v_load1 hF rfl pa3 (cells_sub (vs := [.int .i64 (u0.Prio)]) (hS.bc (i := 0) rfl) rfl rfl)) hF (by decide) (fun a hF => ?_)
     refine sq_yes hF rfl rfl he12 ?_
     obtain ⟨x16, hx17, h⟩ := bindS h
     refine sq_call hF pc77 rfl (by decide) (ok_mods_span (hS.enter trivial) hx17) (fun v W hR a hF => ?_)
     obtain ⟨rfl, hT18⟩ := hR
     have hS := hS.grow hT18.below
     refine sq_yes hF rfl rfl he12 ?_
     refine sq_val (v_not hF rfl) hF (by decide) (fun a hF => ?_)
     refine sq_val (v_pick_f hF rfl he12 rfl) hF (by decide) (fun a hF => ?_)
     obtain rfl := Option.some.inj h
     exact sq_nil (then_j ⟨(hF.keep ⟨rfl, rfl, trivial⟩), hS⟩)
  ·
   by_cases he5 : (!x2) = true
   ·
    replace h := ifT he5 h
    refine sq_no hF rfl rfl he5 (by rintro x ⟨⟩; decide) (fun a hF => ?_)
    refine sq_no hF rfl rfl he5 (by rintro x ⟨⟩; decide) (fun a hF => ?_)
    refine sq_no hF rfl rfl he5 (by rintro x ⟨⟩; decide) (fun a hF => ?_)
    refine sq_no hF rfl rfl he5 (by rintro x ⟨⟩; decide) (fun a hF => ?_)
    refine sq_val (v_pick_t hF rfl he5 rfl) hF (by decide) (fun a hF => ?_)
    obtain rfl := Option.some.inj h
    exact sq_nil (then_j ⟨(hF.keep ⟨rfl, rfl, trivial⟩), hS⟩)
   ·
    have he5 : (!x2) = false := nB he5
    replace h := ifF he5 h
    refine sq_yes hF rfl rfl he5 ?_
    refine sq_val (v_fieldAddr hF rfl pf40_3) hF (by decide) (fun a hF => ?_)
    refine sq_yes hF rfl rfl he5 ?_
    refine sq_val (v_load1 hF rfl pa38 (cells_sub (vs := [.slice A0_0 ((u0.Acts).length) c0_0]) (hS.bc (i := 0) rfl) rfl rfl)) hF (by decide) (fun a hF => ?_)
    refine sq_yes hF rfl rfl he5 ?_
    obtain ⟨x9, hx10, h⟩ := bindS h
    refine sq_call hF pc76 rfl (by decide) (ok_act_Sound k (hS.enter ⟨⟨0, rfl⟩, trivial⟩) hx10) (fun v W hR a hF => ?_)
    obtain ⟨rfl, hT11⟩ := hR
    have hS := hS.grow hT11.below
    refine sq_yes hF rfl rfl he5 ?_
    refine sq_val (v_not hF rfl) hF (by decide) (fun a hF => ?_)
    refine sq_val (v_pick_f hF rfl he5 rfl) hF (by decide) (fun a hF => ?_)
    obtain rfl := Option.some.inj h
    exact sq_nil (then_j ⟨(hF.keep ⟨rfl, rfl, trivial⟩), hS⟩)

theorem ok_slices_Clone_Act {M : Nat → Prop} {w0 : World} {u0 : List TAct} {A0_0 : Option Addr} {c0_0 : Nat} {o : (List TAct)} (hS : St M w0 [] [] [fSl k_TAct A0_0 c0_0 u0] w0) (h : slices_Clone_Act u0 = some o) :
    Calls Try.prog 70 #[.slice A0_0 ((u0).length) c0_0] w0 fun e W' => ∃ v, e = .returned v ∧ (∃ (A8 : Option Addr) (c9 : Nat), v = .slice A8 ((o).length) c9 ∧ St M w0 [] [⟨k_TAct, 94, A8, c9, o⟩] [] W') := by
  unfold slices_Clone_Act at h
  refine calls_start (args := [.slice A0_0 ((u0).length) c0_0]) Try.func70 rfl rfl (Nat.le_of_ble_eq_true rfl) (fun a hF => ?_)
  refine wp_seq ?_
  refine wp_reg ?_
  refine sq_val (v_assign hF rfl) hF (by decide) (fun a hF => ?_)
  refine sq_nil ?_
  refine then_n ?_
  refine wp_seq ?_
  refine wp_seq ?_
  refine wp_reg ?_
  refine sq_val (v_move hF rfl) hF (by decide) (fun a hF => ?_)
  refine sq_val (v_eqNil hF rfl rfl pu38) hF (by decide) (fun a hF => ?_)
  refine sq_nil ?_
  refine then_n ?_
  refine wp_if hF rfl (fun he1 => ?_) (fun he1 => ?_)
  ·
   have hz := nilEmpty (hS.fc (i := 0) rfl) he1
   replace h : some [] = some o := by
     rw [hz] at h
     simpa [app] using h
   refine wp_seq ?_
   refine wp_reg ?_
   refine sq_val (v_assign hF rfl) hF (by decide) (fun a hF => ?_)
   refine sq_nil ?_
   refine then_n ?_
   refine wp_ret ?_
   refine then_r ?_
   have hS := hS.addNil k_TAct 94
   obtain rfl := Option.some.inj h
   exact ret1 hF rfl (rv_tmp hF rfl) ⟨_, rfl, none, 0, rfl, (hS.keep (List.Sublist.refl _) (List.Sublist.refl _) trivial)⟩
  ·
   refine wp_skip ?_
   refine then_n ?_
   refine wp_seq ?_
   refine wp_reg ?_
   refine sq_buildSlice (κ := k_TAct) (xs := []) (ys := ([] : List TAct)) hF hS rfl rfl rfl (Els.nil _ _ _) rfl psl38 pz94 rfl (by decide) (by decide) (by decide) (fun A2 c3 a W hF hS => ?_)
   refine sq_val (v_move hF rfl) hF (by decide) (fun a hF => ?_)
   obtain ⟨x6, hx7, h⟩ := bindS h
   refine sq_append (ys := u0) hF hS (i := 0) rfl rfl rfl (SlR.src (hS.fc (i := 0) rfl)) psl38 pb94 pz94 rfl (by decide) (by decide) hx7 (by decide) (fun A4 c5 a W hF hS => ?_)
   refine sq_val (v_assign hF rfl) hF (by decide) (fun a hF => ?_)
   refine sq_nil ?_
   refine then_n ?_
   refine wp_ret ?_
   obtain rfl := Option.some.inj h
   exact ret1 hF rfl (rv_tmp hF rfl) ⟨_, rfl, A4, c5, rfl, (hS.keep (List.Sublist.refl _) (List.Sublist.refl _) trivial)⟩

theorem ok_slices_Clip_Act {M : Nat → Prop} {w0 : World} {bs : List Box} {rs : List Row} {fs : List Fact} {W0 : World} {u0 : List TAct} {A0_0 : Option Addr} {c0_0 : Nat} {o : List TAct} (hS : St M w0 (bs) (⟨k_TAct, 94, A0_0, c0_0, u0⟩ :: rs) (fs) W0) (h : slices_Clip_Act u0 = some o) :
    Calls Try.prog 69 #[.slice A0_0 ((u0).length) c0_0] W0 fun e W' => ∃ v, e = .returned v ∧ (∃ (A1 : Option Addr) (c2 : Nat), v = .slice A1 ((o).length) c2 ∧ St M w0 (bs) (⟨k_TAct, 94, A1, c2, o⟩ :: rs) (fs) W') := by
  unfold slices_Clip_Act at h
  refine calls_start (args := [.slice A0_0 ((u0).length) c0_0]) Try.func69 rfl rfl (Nat.le_of_ble_eq_true rfl) (fun a hF => ?_)
  refine wp_seq ?_
  refine wp_reg ?_
  refine sq_val (v_assign hF rfl) hF (by decide) (fun a hF => ?_)
  refine sq_nil ?_
  refine then_n ?_
  refine wp_seq ?_
  refine wp_reg ?_
  refine sq_val (v_move hF rfl) hF (by decide) (fun a hF => ?_)
  refine sq_val (v_move hF rfl) hF (by decide) (fun a hF => ?_)
  refine sq_val (v_len hF rfl pu38) hF (by decide) (fun a hF => ?_)
  refine sq_val (v_move hF rfl) hF (by decide) (fun a hF => ?_)
  refine sq_val (v_len hF rfl pu38) hF (by decide) (fun a hF => ?_)
  refine sq_val (v_clip hF rfl rfl rfl psl38 (hS.rw_ (i := 0) rfl).cap) hF (by decide) (fun a hF => ?_)
  have hS := hS.clipRow (i := 0) rfl
  refine sq_val (v_assign hF rfl) hF (by decide) (fun a hF => ?_)
  refine sq_nil ?_
  refine then_n ?_
  refine wp_ret ?_
  obtain rfl := Option.some.inj h
  exact ret1 hF rfl (rv_tmp hF rfl) ⟨_, rfl, A0_0, ((u0).length), rfl, hS⟩

theorem ok_mods_Rule {M : Nat → Prop} {w0 : World} {u0 : TMod} {A0_0 : Option Addr} {c0_0 : Nat} {o : TRule} (hS : St M w0 [] [] [fSl k_TAct A0_0 c0_0 u0.Acts] w0) (h : mods_Rule u0 = some o) :
    Calls Try.prog 119 #[.agg (TMod.enc u0 A0_0 c0_0).toArray] w0 fun e W' => ∃ v, e = .returned v ∧ (∃ (A12 : Option Addr) (c13 : Nat), v = .agg (TRule.enc o A12 c13).toArray ∧ St M w0 [] [] [fSl k_TAct A12 c13 o.Acts] W') := by
  unfold mods_Rule at h
  refine calls_start (args := [.agg (TMod.enc u0 A0_0 c0_0).toArray]) Try.func119 rfl rfl (Nat.le_of_ble_eq_true rfl) (fun a hF => ?_)
  refine wp_seq ?_
  refine wp_reg ?_
  refine sq_box hF hS rfl rfl (by decide) (fun b1 a W hF hS => ?_)
  refine sq_alloc hF hS pz65 rfl (by decide) (fun b2 a W hF hS => ?_)
  refine sq_nil ?_
  refine then_n ?_
  refine wp_seq ?_
  refine wp_drawn (fun _ => St M w0 [⟨b2, TRule.enc TRule.zero none 0, 65⟩, ⟨b1, TMod.enc u0 A0_0 c0_0, 40⟩] [] [fSl k_TAct A0_0 c0_0 u0.Acts]) (fun q => Nat.beq q 15) rfl hS (fun W hB0 hR0 => ?_)
  have hS := hR0
  have hQC : (fun _ => St M w0 [⟨b2, TRule.enc TRule.zero none 0, 65⟩, ⟨b1, TMod.enc u0 A0_0 c0_0, 40⟩] [] [fSl k_TAct A0_0 c0_0 u0.Acts]) W W := hS
  refine e_val (listed' := #[true, false, false, false, false, false, false, false, false, false, false, false, false, false, false, false]) 0 rfl (by kernel_rfl) (by kernel_rfl) (fun _ _ _ h => h) (fun W => (v_fieldAddr hF rfl pf40_1)) hF (by decide) (fun a hF => ?_)
  refine e_valS (listed' := #[true, true, false, false, false, false, false, false, false, false, false, false, false, false, false, false]) 1 rfl (by kernel_rfl) (by kernel_rfl) (fun _ _ _ h => h) (fun W hC => (v_load (cs := TCube.enc u0.Match) hF rfl pa26 ps26 (cells_sub (vs := TCube.enc u0.Match) (hC.bc (i := 1) rfl) rfl rfl))) hQC (by kernel_rfl) hF (by decide) (fun a hF => ?_)
  refine e_val (listed' := #[true, true, true, false, false, false, false, false, false, false, false, false, false, false, false, false]) 2 rfl (by kernel_rfl) (by kernel_rfl) (fun _ _ _ h => h) (fun W => (v_fieldAddr hF rfl pf40_2)) hF (by decide) (fun a hF => ?_)
  refine e_valS (listed' := #[true, true, true, true, false, false, false, false, false, false, false, false, false, false, false, false]) 3 rfl (by kernel_rfl) (by kernel_rfl) (fun _ _ _ h => h) (fun W hC => (v_load1 hF rfl pa3 (cells_sub (vs := [.int .i64 (u0.Prio)]) (hC.bc (i := 1) rfl) rfl rfl))) hQC (by kernel_rfl) hF (by decide) (fun a hF => ?_)
  refine e_val (listed' := #[true, true, true, true, true, false, false, false, false, false, false, false, false, false, false, false]) 4 rfl (by kernel_rfl) (by kernel_rfl) (fun _ _ _ h => h) (fun W => (v_fieldAddr hF rfl pf40_3)) hF (by decide) (fun a hF => ?_)
  refine e_valS (listed' := #[true, true, true, true, true, true, false, false, false, false, false, false, false, false, false, false]) 5 rfl (by kernel_rfl) (by kernel_rfl) (fun _ _ _ h => h) (fun W hC => (v_load1 hF rfl pa38 (cells_sub (vs := [.slice A0_0 ((u0.Acts).length) c0_0]) (hC.bc (i := 1) rfl) rfl rfl))) hQC (by kernel_rfl) hF (by decide) (fun a hF => ?_)
  refine e_val (listed' := #[true, true, true, true, true, true, false, false, true, false, false, false, false, false, false, false]) 8 rfl (by kernel_rfl) (by kernel_rfl) (fun _ _ _ h => h) (fun W => (v_fieldAddr hF rfl pf40_4)) hF (by decide) (fun a hF => ?_)
  refine e_valS (listed' := #[true, true, true, true, true, true, false, false, true, true, false, false, false, false, false, false]) 9 rfl (by kernel_rfl) (by kernel_rfl) (fun _ _ _ h => h) (fun W hC => (v_load1 hF rfl pa3 (cells_sub (vs := [.int .i64 (u0.Idle)]) (hC.bc (i := 1) rfl) rfl rfl))) hQC (by kernel_rfl) hF (by decide) (fun a hF => ?_)
  refine e_val (listed' := #[true, true, true, true, true, true, false, false, true, true, true, false, false, false, false, false]) 10 rfl (by kernel_rfl) (by kernel_rfl) (fun _ _ _ h => h) (fun W => (v_fieldAddr hF rfl pf40_5)) hF (by decide) (fun a hF => ?_)
  refine e_valS (listed' := #[true, true, true, true, true, true, false, false, true, true, true, true, false, false, false, false]) 11 rfl (by kernel_rfl) (by kernel_rfl) (fun _ _ _ h => h) (fun W hC => (v_load1 hF rfl pa3 (cells_sub (vs := [.int .i64 (u0.Hard)]) (hC.bc (i := 1) rfl) rfl rfl))) hQC (by kernel_rfl) hF (by decide) (fun a hF => ?_)
  refine e_val (listed' := #[true, true, true, true, true, true, false, false, true, true, true, true, true, false, false, false]) 12 rfl (by kernel_rfl) (by kernel_rfl) (fun _ _ _ h => h) (fun W => (v_fieldAddr hF rfl pf40_6)) hF (by decide) (fun a hF => ?_)
  refine e_valS (listed' := #[true, true, true, true, true, true, false, false, true, true, true, true, true, true, false, false]) 13 rfl (by kernel_rfl) (by kernel_rfl) (fun _ _ _ h => h) (fun W hC => (v_load1 hF rfl pa3 (cells_sub (vs := [.int .i64 (u0.Owner)]) (hC.bc (i := 1) rfl) rfl rfl))) hQC (by kernel_rfl) hF (by decide) (fun a hF => ?_)
  refine e_one (listed' := #[true, true, true, true, true, true, true, false, true, true, true, true, true, true, false, false]) 6 rfl (by kernel_rfl) (by kernel_rfl) ?_
  obtain ⟨x3, hx4, h⟩ := bindS h
  refine sq_call hF pc70 rfl (by decide) (ok_slices_Clone_Act (hS.enter ⟨⟨0, rfl⟩, trivial⟩) hx4) (fun v W hR a hF => ?_)
  obtain ⟨A5, c6, rfl, hT7⟩ := hR
  have hS := hS.join hT7
  refine sq_nil (then_j ⟨?_, ?_⟩)
  · exact fun _ _ => (hS.keep (List.Sublist.refl _) (List.nil_sublist _) ⟨⟨0, rfl⟩, trivial⟩)
  ·
   have hQC : (fun _ => St M w0 [⟨b2, TRule.enc TRule.zero none 0, 65⟩, ⟨b1, TMod.enc u0 A0_0 c0_0, 40⟩] [] [fSl k_TAct A0_0 c0_0 u0.Acts]) W W := (hS.keep (List.Sublist.refl _) (List.nil_sublist _) ⟨⟨0, rfl⟩, trivial⟩)
   refine e_one (listed' := #[true, true, true, true, true, true, true, true, true, true, true, true, true, true, false, false]) 7 rfl (by kernel_rfl) (by kernel_rfl) ?_
   obtain ⟨x8, hx9, h⟩ := bindS h
   refine sq_call hF pc69 rfl (by decide) (ok_slices_Clip_Act hS hx9) (fun v W hR a hF => ?_)
   obtain ⟨A10, c11, rfl, hS⟩ := hR
   refine sq_nil (then_j ⟨?_, ?_⟩)
   · exact fun _ _ => (hS.keep (List.Sublist.refl _) (List.nil_sublist _) ⟨⟨0, rfl⟩, trivial⟩)
   ·
    have hQC : (fun _ => St M w0 [⟨b2, TRule.enc TRule.zero none 0, 65⟩, ⟨b1, TMod.enc u0 A0_0 c0_0, 40⟩] [] [fSl k_TAct A0_0 c0_0 u0.Acts]) W W := (hS.keep (List.Sublist.refl _) (List.nil_sublist _) ⟨⟨0, rfl⟩, trivial⟩)
    refine e_one (listed' := #[true, true, true, true, true, true, true, true, true, true, true, true, true, true, true, false]) 14 rfl (by kernel_rfl) (by kernel_rfl) ?_
    have hS := hS.freeze (i := 0) rfl (posB rfl)
    refine sq_val (v_build (parts := [(0, .tmp 4), (1, .tmp 6), (2, .tmp 10), (3, .tmp 12), (4, .tmp 14), (5, .tmp 16)]) (out := TRule.enc ({ Match := u0.Match, Prio := u0.Prio, Acts := x8, Idle := u0.Idle, Hard := u0.Hard, Owner := u0.Owner, Hits := 0, Quiet := 0, Age := 0 } : TRule) A10 c11) hF rfl rfl pz65 rfl pp65 rfl) hF (by decide) (fun a hF => ?_)
    refine sq_nil (then_j ⟨?_, ?_⟩)
    · exact fun _ _ => (hS.keep (List.Sublist.refl _) (List.Sublist.refl _) ⟨⟨1, rfl⟩, trivial⟩)
    ·
     have hQC : (fun _ => St M w0 [⟨b2, TRule.enc TRule.zero none 0, 65⟩, ⟨b1, TMod.enc u0 A0_0 c0_0, 40⟩] [] [fSl k_TAct A0_0 c0_0 u0.Acts]) W W := (hS.keep (List.Sublist.refl _) (List.Sublist.refl _) ⟨⟨1, rfl⟩, trivial⟩)
     refine e_one (listed' := #[true, true, true, true, true, true, true, true, true, true, true, true, true, true, true, true]) 15 rfl (by kernel_rfl) (by kernel_rfl) ?_
     refine sq_store (o := 0) (vs := TRule.enc ({ Match := u0.Match, Prio := u0.Prio, Acts := x8, Idle := u0.Idle, Hard := u0.Hard, Owner := u0.Owner, Hits := 0, Quiet := 0, Age := 0 } : TRule) A10 c11) (cs' := TRule.enc ({ Match := u0.Match, Prio := u0.Prio, Acts := x8, Idle := u0.Idle, Hard := u0.Hard, Owner := u0.Owner, Hits := 0, Quiet := 0, Age := 0 } : TRule) A10 c11) hF hS rfl rfl (i := 0) rfl rfl rfl ps65 (TRule.enc_one _ _ _) (Nat.le_of_ble_eq_true rfl) rfl (fun W hS => ?_)
     refine sq_nil (then_j ⟨?_, ?_⟩)
     · exact fun _ hE => absurd hE (by decide)
     ·
      refine e_done (by kernel_rfl) ?_ _
      refine then_n ?_
      refine wp_ret ?_
      obtain rfl := Option.some.inj h
      exact ret1 hF rfl (rv_cell (cs := TRule.enc ({ Match := u0.Match, Prio := u0.Prio, Acts := x8, Idle := u0.Idle, Hard := u0.Hard, Owner := u0.Owner, Hits := 0, Quiet := 0, Age := 0 } : TRule) A10 c11) hF rfl pa65 ps65 (hS.bc (i := 0) rfl)) ⟨_, rfl, A10, c11, rfl, (hS.keep (List.nil_sublist _) (List.Sublist.refl _) ⟨⟨0, rfl⟩, trivial⟩)⟩

theorem ok_rule_Key {M : Nat → Prop} {w0 : World} {u0 : TRule} {A0_0 : Option Addr} {c0_0 : Nat} {u1 : TRule} {A1_0 : Option Addr} {c1_0 : Nat} {o : Bool} (hS : St M w0 [] [] [fSl k_TAct A0_0 c0_0 u0.Acts, fSl k_TAct A1_0 c1_0 u1.Acts] w0) (h : rule_Key u0 u1 = some o) :
    Calls Try.prog 122 #[.agg (TRule.enc u0 A0_0 c0_0).toArray, .agg (TRule.enc u1 A1_0 c1_0).toArray] w0 fun e W' => ∃ v, e = .returned v ∧ (v = .bool (o) ∧ St M w0 [] [] [] W') := by
  unfold rule_Key at h
  refine calls_start (args := [.agg (TRule.enc u0 A0_0 c0_0).toArray, .agg (TRule.enc u1 A1_0 c1_0).toArray]) Try.func122 rfl rfl (Nat.le_of_ble_eq_true rfl) (fun a hF => ?_)
  refine wp_seq ?_
  refine wp_reg ?_
  refine sq_box hF hS rfl rfl (by decide) (fun b1 a W hF hS => ?_)
  refine sq_box hF hS rfl rfl (by decide) (fun b2 a W hF hS => ?_)
  refine sq_val (v_assign hF rfl) hF (by decide) (fun a hF => ?_)
  refine sq_nil ?_
  refine then_n ?_
  refine wp_seq ?_
  refine wp_reg ?_
  refine sq_val (v_fieldAddr hF rfl pf65_0) hF (by decide) (fun a hF => ?_)
  refine sq_val (v_load (cs := TCube.enc u0.Match) hF rfl pa26 ps26 (cells_sub (vs := TCube.enc u0.Match) (hS.bc (i := 1) rfl) rfl rfl)) hF (by decide) (fun a hF => ?_)
  refine sq_val (v_fieldAddr hF rfl pf65_0) hF (by decide) (fun a hF => ?_)
  refine sq_val (v_load (cs := TCube.enc u1.Match) hF rfl pa26 ps26 (cells_sub (vs := TCube.enc u1.Match) (hS.bc (i := 0) rfl) rfl rfl)) hF (by decide) (fun a hF => ?_)
  refine sq_val (eq26 hF rfl rfl).1 hF (by decide) (fun a hF => ?_)
  refine sq_val (v_move hF rfl) hF (by decide) (fun a hF => ?_)
  refine sq_cut 6 (fun a W => FH 17 [(16, .bool ((cellsEq (TCube.enc u0.Match) (TCube.enc u1.Match)) && (u0.Prio == u1.Prio)))] a ∧ St M w0 [⟨b2, TRule.enc u1 A1_0 c1_0, 65⟩, ⟨b1, TRule.enc u0 A0_0 c0_0, 65⟩] [] [fSl k_TAct A0_0 c0_0 u0.Acts, fSl k_TAct A1_0 c1_0 u1.Acts] W) (fun a W hJ => ?_) ?_
  ·
   obtain ⟨hF, hS⟩ := hJ
   refine sq_val (v_assign hF rfl) hF (by decide) (fun a hF => ?_)
   refine sq_nil ?_
   refine then_n ?_
   refine wp_ret ?_
   obtain rfl := Option.some.inj h
   exact ret1 hF rfl (rv_tmp hF rfl) ⟨_, rfl, rfl, (hS.keep (List.nil_sublist _) (List.Sublist.refl _) trivial)⟩
  ·
   by_cases he3 : (cellsEq (TCube.enc u0.Match) (TCube.enc u1.Match)) = true
   ·
    refine sq_yes hF rfl rfl he3 ?_
    refine sq_val (v_fieldAddr hF rfl pf65_1) hF (by decide) (fun a hF => ?_)
    refine sq_yes hF rfl rfl he3 ?_
    refine sq_val (v_load1 hF rfl pa3 (cells_sub (vs := [.int .i64 (u0.Prio)]) (hS.bc (i := 1) rfl) rfl rfl)) hF (by decide) (fun a hF => ?_)
    refine sq_yes hF rfl rfl he3 ?_
    refine sq_val (v_fieldAddr hF rfl pf65_1) hF (by decide) (fun a hF => ?_)
    refine sq_yes hF rfl rfl he3 ?_
    refine sq_val (v_load1 hF rfl pa3 (cells_sub (vs := [.int .i64 (u1.Prio)]) (hS.bc (i := 0) rfl) rfl rfl)) hF (by decide) (fun a hF => ?_)
    refine sq_yes hF rfl rfl he3 ?_
    refine sq_val (v_eql hF rfl rfl) hF (by decide) (fun a hF => ?_)
    refine sq_val (v_pick_t hF rfl he3 rfl) hF (by decide) (fun a hF => ?_)
    exact sq_nil (then_j ⟨(hF.keep ⟨(boolV (and_t he3)), trivial⟩), hS⟩)
   ·
    have he3 : (cellsEq (TCube.enc u0.Match) (TCube.enc u1.Match)) = false := nB he3
    refine sq_no hF rfl rfl he3 (by rintro x ⟨⟩; decide) (fun a hF => ?_)
    refine sq_no hF rfl rfl he3 (by rintro x ⟨⟩; decide) (fun a hF => ?_)
    refine sq_no hF rfl rfl he3 (by rintro x ⟨⟩; decide) (fun a hF => ?_)
    refine sq_no hF rfl rfl he3 (by rintro x ⟨⟩; decide) (fun a hF => ?_)
    refine sq_no hF rfl rfl he3 (by rintro x ⟨⟩; decide) (fun a hF => ?_)
    refine sq_val (v_pick_f hF rfl he3 rfl) hF (by decide) (fun a hF => ?_)
    exact sq_nil (then_j ⟨(hF.keep ⟨(boolV (and_f he3)), trivial⟩), hS⟩)

theorem ok_mods_add_1 {M : Nat → Prop} {w0 : World} {u0 : TRule} {A0_0 : Option Addr} {c0_0 : Nat} {y0 : TRule} {b0_ : Nat} {B0_0 : Option Addr} {d0_0 : Nat} {o : Bool} (hS : St M w0 [] [] [fSl k_TAct A0_0 c0_0 u0.Acts, fSl k_TAct B0_0 d0_0 y0.Acts, fBox b0_ (TRule.enc y0 B0_0 d0_0) 65] w0) (h : mods_add_1 u0 y0 = some o) :
    Calls Try.prog 121 #[.agg (TRule.enc u0 A0_0 c0_0).toArray, .pointer (some (⟨b0_, 0, none⟩))] w0 fun e W' => ∃ v, e = .returned v ∧ (v = .bool (o) ∧ St M w0 [] [] [] W') := by
  unfold mods_add_1 at h
  refine calls_start (args := [.agg (TRule.enc u0 A0_0 c0_0).toArray, .pointer (some (⟨b0_, 0, none⟩))]) Try.func121 rfl rfl (Nat.le_of_ble_eq_true rfl) (fun a hF => ?_)
  refine wp_seq ?_
  refine wp_reg ?_
  refine sq_box hF hS rfl rfl (by decide) (fun b1 a W hF hS => ?_)
  refine sq_val (v_assign hF rfl) hF (by decide) (fun a hF => ?_)
  refine sq_nil ?_
  refine then_n ?_
  refine wp_seq ?_
  refine wp_reg ?_
  refine sq_val (v_load (cs := TRule.enc u0 A0_0 c0_0) hF rfl pa65 ps65 (hS.bc (i := 0) rfl)) hF (by decide) (fun a hF => ?_)
  refine sq_val (v_load (cs := TRule.enc y0 B0_0 d0_0) hF rfl pa65 ps65 (hS.fbc (i := 2) rfl)) hF (by decide) (fun a hF => ?_)
  obtain ⟨x2, hx3, h⟩ := bindS h
  refine sq_call hF pc122 rfl (by decide) (ok_rule_Key (hS.enter ⟨⟨0, rfl⟩, ⟨1, rfl⟩, trivial⟩) hx3) (fun v W hR a hF => ?_)
  obtain ⟨rfl, hT4⟩ := hR
  have hS := hS.grow hT4.below
  refine sq_val (v_assign hF rfl) hF (by decide) (fun a hF => ?_)
  refine sq_nil ?_
  refine then_n ?_
  refine wp_ret ?_
  obtain rfl := Option.some.inj h
  exact ret1 hF rfl (rv_tmp hF rfl) ⟨_, rfl, rfl, (hS.keep (List.nil_sublist _) (List.Sublist.refl _) trivial)⟩

theorem ok_slices_IndexFunc_Rule (k : Nat) {M : Nat → Prop} {w0 : World} {u0 : List TRule} {A0_0 : Option Addr} {c0_0 : Nat} {F1 : FuncId} {caps1 : List Value} {u1 : TRule → Option Bool} {o : Int} (hS : St M w0 [] [] [fSl k_TRule A0_0 c0_0 u0, fFn1 Try.prog F1 caps1 k_TRule true u1 (fun y => .bool y)] w0) (h : slices_IndexFunc_Rule k u0 u1 = some o) :
    Calls Try.prog 120 #[.slice A0_0 ((u0).length) c0_0, .func (.func F1) #[] caps1.toArray] w0 fun e W' => ∃ v, e = .returned v ∧ (v = .int .i64 (o) ∧ St M w0 [] [] [] W') := by
  unfold slices_IndexFunc_Rule at h
  refine calls_start (args := [.slice A0_0 ((u0).length) c0_0, .func (.func F1) #[] caps1.toArray]) Try.func120 rfl rfl (Nat.le_of_ble_eq_true rfl) (fun a hF => ?_)
  refine wp_seq ?_
  refine wp_reg ?_
  refine sq_val (v_assign hF rfl) hF (by decide) (fun a hF => ?_)
  refine sq_nil ?_
  refine then_n ?_
  refine wp_seq ?_
  refine wp_seq ?_
  refine wp_reg ?_
  refine sq_val (v_move hF rfl) hF (by decide) (fun a hF => ?_)
  refine sq_val (v_len hF rfl pu37) hF (by decide) (fun a hF => ?_)
  refine sq_val (v_move hF rfl) hF (by decide) (fun a hF => ?_)
  refine sq_nil ?_
  refine then_n ?_
  obtain ⟨o3, h, hk4⟩ := bindS h
  refine wp_join (fun a W => Lo.brk () = o3 ∧ FH 19 [] a ∧ St M w0 [] [] [] W) (fun a W hJ => ?_) ?_
  ·
   obtain ⟨rfl, hF, hS⟩ := hJ
   have h := hk4
   dsimp only at h
   refine then_n ?_
   refine wp_seq ?_
   refine wp_reg ?_
   refine sq_val (v_assign hF rfl) hF (by decide) (fun a hF => ?_)
   refine sq_nil ?_
   refine then_n ?_
   refine wp_ret ?_
   obtain rfl := Option.some.inj h
   exact ret1 hF rfl (rv_tmp hF rfl) ⟨_, rfl, rfl, hS⟩
  ·
   refine wp_block ?_
   refine wp_loop_fuel (I := fun m a W => ∃ (x2 : Int), FH 19 [(0, .slice A0_0 ((u0).length) c0_0), (1, .func (.func F1) #[] caps1.toArray), (7, .int .i64 ((u0.length : Int))), (8, .int .i64 (x2))] a ∧ St M w0 [] [] [fSl k_TRule A0_0 c0_0 u0, fFn1 Try.prog F1 caps1 k_TRule true u1 (fun y => .bool y)] W ∧ (slices_IndexFunc_Rule.l0 k u0 u1 m x2) = some o3) ?_ (k := k) ⟨0, (hF.keep ⟨rfl, rfl, rfl, rfl, trivial⟩), hS, h⟩
   rintro m5 a W ⟨x2, hF, hS, h⟩
   cases m5 with
   | zero => cases h
   | succ m5 =>
    rw [slices_IndexFunc_Rule.l0] at h
    refine wp_seq ?_
    refine wp_reg ?_
    refine sq_val (v_lss hF rfl rfl) hF (by decide) (fun a hF => ?_)
    refine sq_nil ?_
    refine then_n ?_
    refine wp_seq ?_
    refine wp_if hF rfl (fun he6 => ?_) (fun he6 => ?_)
    ·
     replace h := ifT he6 h
     refine wp_skip ?_
     refine then_n ?_
     refine wp_seq ?_
     refine wp_block ?_
     refine wp_seq ?_
     refine wp_reg ?_
     refine sq_val (v_move hF rfl) hF (by decide) (fun a hF => ?_)
     refine sq_val (v_assign hF rfl) hF (by decide) (fun a hF => ?_)
     refine sq_nil ?_
     refine then_n ?_
     refine wp_seq ?_
     refine wp_reg ?_
     refine sq_val (v_move hF rfl) hF (by decide) (fun a hF => ?_)
     refine sq_val (v_move hF rfl) hF (by decide) (fun a hF => ?_)
     refine sq_val (v_move hF rfl) hF (by decide) (fun a hF => ?_)
     obtain ⟨x7, hx8, h⟩ := bindS h
     obtain ⟨p9, cs10, hA11, hat12⟩ := SlR.at (hS.fc (i := 0) rfl) hx8
     obtain ⟨A13, c14, rfl, hs15⟩ := hat12.2.2.2
     have hS := hS.addFact (f := fAt k_TRule (p9.add (x2.toNat * 32)) (TRule.enc x7 A13 c14) x7) hat12
     have hS := hS.addFact (f := fSl k_TAct A13 c14 x7.Acts) hs15
     refine sq_val (v_idx hF rfl hA11 rfl psl37 hx8) hF (by decide) (fun a hF => ?_)
     refine sq_val (v_load (cs := TRule.enc x7 A13 c14) hF rfl pa65 ps65 (hS.pc (i := 1) rfl)) hF (by decide) (fun a hF => ?_)
     obtain ⟨x16, hx17, h⟩ := bindS h
     refine sq_callv hF (hS.fc (i := 3) rfl).1 rfl rfl (by decide) (call1 (hS.fc (i := 3) rfl) hS ⟨A13, c14, rfl, (hS.fc (i := 0) rfl)⟩ hx17) (fun v W hR a hF => ?_)
     obtain ⟨rfl, hT18⟩ := hR
     have hS := hS.grow hT18
     refine sq_nil ?_
     refine then_n ?_
     refine wp_if hF rfl (fun he19 => ?_) (fun he19 => ?_)
     ·
      replace h := ifT he19 h
      refine wp_seq ?_
      refine wp_reg ?_
      refine sq_val (v_move hF rfl) hF (by decide) (fun a hF => ?_)
      refine sq_val (v_assign hF rfl) hF (by decide) (fun a hF => ?_)
      refine sq_nil ?_
      refine then_n ?_
      refine wp_ret ?_
      refine blk_r ?_
      refine then_r ?_
      refine then_r ?_
      refine blk_r ?_
      refine then_r ?_
      refine then_r ?_
      obtain rfl := Option.some.inj h
      have h := hk4
      dsimp only at h
      obtain rfl := Option.some.inj h
      exact ret1 hF rfl (rv_tmp hF rfl) ⟨_, rfl, rfl, (hS.keep (List.Sublist.refl _) (List.Sublist.refl _) trivial)⟩
     ·
      replace h := ifF he19 h
      refine wp_skip ?_
      refine blk_n ?_
      refine then_n ?_
      refine wp_reg ?_
      refine sq_val (v_add hF rfl rfl) hF (by decide) (fun a hF => ?_)
      refine sq_val (v_move hF rfl) hF (by decide) (fun a hF => ?_)
      refine sq_nil ?_
      exact then_j ⟨m5, Nat.lt_succ_self _, (IntKind.i64.wrap (x2 + 1)), (hF.keep ⟨rfl, rfl, rfl, rfl, trivial⟩), (hS.keep (List.Sublist.refl _) (List.Sublist.refl _) ⟨⟨2, rfl⟩, ⟨3, rfl⟩, trivial⟩), h⟩
    ·
     replace h := ifF he6 h
     refine wp_exit ?_
     refine then_x ?_
     refine then_x ?_
     refine blk_hit ?_
     obtain rfl := Option.some.inj h
     exact then_j ⟨rfl, (hF.keep trivial), (hS.keep (List.Sublist.refl _) (List.Sublist.refl _) trivial)⟩

theorem ok_cube_both (k : Nat) {M : Nat → Prop} {w0 : World} {u0 : TCube} {u1 : TCube} {o : Bool} (hS : St M w0 [] [] [] w0) (h : cube_both k u0 u1 = some o) :
    Calls Try.prog 54 #[.agg (TCube.enc u0).toArray, .agg (TCube.enc u1).toArray] w0 fun e W' => ∃ v, e = .returned v ∧ (v = .bool (o) ∧ St M w0 [] [] [] W') := by
  unfold cube_both at h
  refine calls_start (args := [.agg (TCube.enc u0).toArray, .agg (TCube.enc u1).toArray]) Try.func54 rfl rfl (Nat.le_of_ble_eq_true rfl) (fun a hF => ?_)
  refine wp_seq ?_
  refine wp_reg ?_
  refine sq_box hF hS rfl rfl (by decide) (fun b1 a W hF hS => ?_)
  refine sq_box hF hS rfl rfl (by decide) (fun b2 a W hF hS => ?_)
  refine sq_val (v_assign hF rfl) hF (by decide) (fun a hF => ?_)
  refine sq_nil ?_
  refine then_n ?_
  refine wp_seq ?_
  refine wp_reg ?_
  refine sq_val (v_load (cs := TCube.enc u0) hF rfl pa26 ps26 (hS.bc (i := 1) rfl)) hF (by decide) (fun a hF => ?_)
  obtain ⟨x3, hx4, h⟩ := bindS h
  refine sq_call hF pc58 rfl (by decide) (ok_cube_Sound k (hS.enter trivial) hx4) (fun v W hR a hF => ?_)
  obtain ⟨rfl, hT5⟩ := hR
  have hS := hS.grow hT5.below
  refine sq_val (v_move hF rfl) hF (by decide) (fun a hF => ?_)
  obtain ⟨x7, h, hk9⟩ := bindS h
  refine sq_cut 3 (fun a W => FH 11 [(10, .bool x7)] a ∧ St M w0 [⟨b2, TCube.enc u1, 26⟩, ⟨b1, TCube.enc u0, 26⟩] [] [] W) (fun a W hJ => ?_) ?_
  ·
   have h := hk9
   obtain ⟨hF, hS⟩ := hJ
   refine sq_val (v_assign hF rfl) hF (by decide) (fun a hF => ?_)
   refine sq_nil ?_
   refine then_n ?_
   refine wp_ret ?_
   obtain rfl := Option.some.inj h
   exact ret1 hF rfl (rv_tmp hF rfl) ⟨_, rfl, rfl, (hS.keep (List.nil_sublist _) (List.Sublist.refl _) trivial)⟩
  ·
   by_cases he6 : x3 = true
   ·
    replace h := ifT he6 h
    refine sq_yes hF rfl rfl he6 ?_
    refine sq_val (v_load (cs := TCube.enc u1) hF rfl pa26 ps26 (hS.bc (i := 0) rfl)) hF (by decide) (fun a hF => ?_)
    refine sq_yes hF rfl rfl he6 ?_
    obtain ⟨x10, hx11, h⟩ := bindS h
    refine sq_call hF pc58 rfl (by decide) (ok_cube_Sound k (hS.enter trivial) hx11) (fun v W hR a hF => ?_)
    obtain ⟨rfl, hT12⟩ := hR
    have hS := hS.grow hT12.below
    refine sq_val (v_pick_t hF rfl he6 rfl) hF (by decide) (fun a hF => ?_)
    obtain rfl := Option.some.inj h
    exact sq_nil (then_j ⟨(hF.keep ⟨rfl, trivial⟩), hS⟩)
   ·
    have he6 : x3 = false := nB he6
    replace h := ifF he6 h
    refine sq_no hF rfl rfl he6 (by rintro x ⟨⟩; decide) (fun a hF => ?_)
    refine sq_no hF rfl rfl he6 (by rintro x ⟨⟩; decide) (fun a hF => ?_)
    refine sq_val (v_pick_f hF rfl he6 rfl) hF (by decide) (fun a hF => ?_)
    obtain rfl := Option.some.inj h
    exact sq_nil (then_j ⟨(hF.keep ⟨rfl, trivial⟩), hS⟩)
end Go.Proofs.Ytangebngeeamoaa
