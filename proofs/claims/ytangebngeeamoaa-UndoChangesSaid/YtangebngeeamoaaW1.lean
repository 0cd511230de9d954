/- What calls of the Go functions come to. -/
import Derived.Test.YtangebngeeamoaaW0
set_option linter.unusedVariables false
set_option linter.unusedSimpArgs false
set_option maxRecDepth 100000
set_option maxHeartbeats 4000000
namespace Go.Proofs.Ytangebngeeamoaa
open Go.RowKit Go.Pod
theorem ok_rule_Sound (k : Nat) {M : Nat → Prop} {w0 : World} {u0 : TRule} {A0_0 : Option Addr} {c0_0 : Nat} {o : Bool} (hS : St M w0 [] [] [fSl k_TAct A0_0 c0_0 u0.Acts] w0) (h : rule_Sound k u0 = some o) :
    Calls Try.prog 117 #[.agg (TRule.enc u0 A0_0 c0_0).toArray] w0 fun e W' => ∃ v, e = .returned v ∧ (v = .bool (o) ∧ St M w0 [] [] [] W') := by
  unfold rule_Sound at h
  refine calls_start (args := [.agg (TRule.enc u0 A0_0 c0_0).toArray]) Try.func117 rfl rfl (Nat.le_of_ble_eq_true rfl) (fun a hF => ?_)
  refine wp_seq ?_
  refine wp_reg ?_
  refine sq_box hF hS rfl rfl (by decide) (fun b1 a W hF hS => ?_)
  refine sq_val (v_assign hF rfl) hF (by decide) (fun a hF => ?_)
  refine sq_nil ?_
  refine then_n ?_
  refine wp_seq ?_
  refine wp_reg ?_
  refine sq_val (v_fieldAddr hF rfl pf65_0) hF (by decide) (fun a hF => ?_)
  refine sq_val (v_load (cs := TCube.enc u0.Match) hF rfl pa26 ps26 (cells_sub (vs := TCube.enc u0.Match) (hS.bc (i := 0) rfl) rfl rfl)) hF (by decide) (fun a hF => ?_)
  obtain ⟨x2, hx3, h⟩ := bindS h
  refine sq_call hF pc58 rfl (by decide) (ok_cube_Sound k (hS.enter trivial) hx3) (fun v W hR a hF => ?_)
  obtain ⟨rfl, hT4⟩ := hR
  have hS := hS.grow hT4.below
  refine sq_val (v_move hF rfl) hF (by decide) (fun a hF => ?_)
  obtain ⟨x6, h, hk8⟩ := bindS h
  refine sq_cut 4 (fun a W => FH 41 [(1, .pointer (some (⟨b1, 0, none⟩))), (10, .bool x6)] a ∧ St M w0 [⟨b1, TRule.enc u0 A0_0 c0_0, 65⟩] [] [fSl k_TAct A0_0 c0_0 u0.Acts] W) (fun a W hJ => ?_) ?_
  ·
   have h := hk8
   obtain ⟨hF, hS⟩ := hJ
   refine sq_val (v_move hF rfl) hF (by decide) (fun a hF => ?_)
   obtain ⟨x13, h, hk15⟩ := bindS h
   refine sq_cut 4 (fun a W => FH 41 [(1, .pointer (some (⟨b1, 0, none⟩))), (15, .bool x13)] a ∧ St M w0 [⟨b1, TRule.enc u0 A0_0 c0_0, 65⟩] [] [fSl k_TAct A0_0 c0_0 u0.Acts] W) (fun a W hJ => ?_) ?_
   ·
    have h := hk15
    obtain ⟨hF, hS⟩ := hJ
    refine sq_val (v_move hF rfl) hF (by decide) (fun a hF => ?_)
    obtain ⟨x20, h, hk22⟩ := bindS h
    refine sq_cut 4 (fun a W => FH 41 [(1, .pointer (some (⟨b1, 0, none⟩))), (20, .bool x20)] a ∧ St M w0 [⟨b1, TRule.enc u0 A0_0 c0_0, 65⟩] [] [fSl k_TAct A0_0 c0_0 u0.Acts] W) (fun a W hJ => ?_) ?_
    ·
     have h := hk22
     obtain ⟨hF, hS⟩ := hJ
     refine sq_val (v_move hF rfl) hF (by decide) (fun a hF => ?_)
     obtain ⟨x27, h, hk29⟩ := bindS h
     refine sq_cut 4 (fun a W => FH 41 [(1, .pointer (some (⟨b1, 0, none⟩))), (25, .bool x27)] a ∧ St M w0 [⟨b1, TRule.enc u0 A0_0 c0_0, 65⟩] [] [fSl k_TAct A0_0 c0_0 u0.Acts] W) (fun a W hJ => ?_) ?_
     ·
      have h := hk29
      obtain ⟨hF, hS⟩ := hJ
      refine sq_val (v_move hF rfl) hF (by decide) (fun a hF => ?_)
      obtain ⟨x34, h, hk36⟩ := bindS h
      refine sq_cut 4 (fun a W => FH 41 [(1, .pointer (some (⟨b1, 0, none⟩))), (30, .bool x34)] a ∧ St M w0 [⟨b1, TRule.enc u0 A0_0 c0_0, 65⟩] [] [fSl k_TAct A0_0 c0_0 u0.Acts] W) (fun a W hJ => ?_) ?_
      ·
       have h := hk36
       obtain ⟨hF, hS⟩ := hJ
       refine sq_val (v_move hF rfl) hF (by decide) (fun a hF => ?_)
       refine sq_cut 9 (fun a W => FH 41 [(40, .bool (x34 && (decide (0 ≤ (min (min u0.Hits u0.Quiet) u0.Age)))))] a ∧ St M w0 [⟨b1, TRule.enc u0 A0_0 c0_0, 65⟩] [] [fSl k_TAct A0_0 c0_0 u0.Acts] W) (fun a W hJ => ?_) ?_
       ·
        obtain ⟨hF, hS⟩ := hJ
        refine sq_val (v_assign hF rfl) hF (by decide) (fun a hF => ?_)
        refine sq_nil ?_
        refine then_n ?_
        refine wp_ret ?_
        obtain rfl := Option.some.inj h
        exact ret1 hF rfl (rv_tmp hF rfl) ⟨_, rfl, rfl, (hS.keep (List.nil_sublist _) (List.Sublist.refl _) trivial)⟩
       ·
        by_cases he40 : x34 = true
        ·
         refine sq_yes hF rfl rfl he40 ?_
         refine sq_val (v_fieldAddr hF rfl pf65_6) hF (by decide) (fun a hF => ?_)
         refine sq_yes hF rfl rfl he40 ?_
         refine sq_val (v_load1 hF rfl pa3 (cells_sub (vs := [.int .i64 (u0.Hits)]) (hS.bc (i := 0) rfl) rfl rfl)) hF (by decide) (fun a hF => ?_)
         refine sq_yes hF rfl rfl he40 ?_
         refine sq_val (v_fieldAddr hF rfl pf65_7) hF (by decide) (fun a hF => ?_)
         refine sq_yes hF rfl rfl he40 ?_
         refine sq_val (v_load1 hF rfl pa3 (cells_sub (vs := [.int .i64 (u0.Quiet)]) (hS.bc (i := 0) rfl) rfl rfl)) hF (by decide) (fun a hF => ?_)
         refine sq_yes hF rfl rfl he40 ?_
         refine sq_val (v_fieldAddr hF rfl pf65_8) hF (by decide) (fun a hF => ?_)
         refine sq_yes hF rfl rfl he40 ?_
         refine sq_val (v_load1 hF rfl pa3 (cells_sub (vs := [.int .i64 (u0.Age)]) (hS.bc (i := 0) rfl) rfl rfl)) hF (by decide) (fun a hF => ?_)
         refine sq_yes hF rfl rfl he40 ?_
         refine sq_val (v_min3 hF rfl rfl rfl) hF (by decide) (fun a hF => ?_)
         refine sq_yes hF rfl rfl he40 ?_
         refine sq_val (v_geq hF rfl rfl) hF (by decide) (fun a hF => ?_)
         refine sq_val (v_pick_t hF rfl he40 rfl) hF (by decide) (fun a hF => ?_)
         exact sq_nil (then_j ⟨(hF.keep ⟨(boolV (and_t he40)), trivial⟩), hS⟩)
        ·
         have he40 : x34 = false := nB he40
         refine sq_no hF rfl rfl he40 (by rintro x ⟨⟩; decide) (fun a hF => ?_)
         refine sq_no hF rfl rfl he40 (by rintro x ⟨⟩; decide) (fun a hF => ?_)
         refine sq_no hF rfl rfl he40 (by rintro x ⟨⟩; decide) (fun a hF => ?_)
         refine sq_no hF rfl rfl he40 (by rintro x ⟨⟩; decide) (fun a hF => ?_)
         refine sq_no hF rfl rfl he40 (by rintro x ⟨⟩; decide) (fun a hF => ?_)
         refine sq_no hF rfl rfl he40 (by rintro x ⟨⟩; decide) (fun a hF => ?_)
         refine sq_no hF rfl rfl he40 (by rintro x ⟨⟩; decide) (fun a hF => ?_)
         refine sq_no hF rfl rfl he40 (by rintro x ⟨⟩; decide) (fun a hF => ?_)
         refine sq_val (v_pick_f hF rfl he40 rfl) hF (by decide) (fun a hF => ?_)
         exact sq_nil (then_j ⟨(hF.keep ⟨(boolV (and_f he40)), trivial⟩), hS⟩)
      ·
       by_cases he33 : x27 = true
       ·
        replace h := ifT he33 h
        refine sq_yes hF rfl rfl he33 ?_
        refine sq_val (v_fieldAddr hF rfl pf65_5) hF (by decide) (fun a hF => ?_)
        refine sq_yes hF rfl rfl he33 ?_
        refine sq_val (v_load1 hF rfl pa3 (cells_sub (vs := [.int .i64 (u0.Owner)]) (hS.bc (i := 0) rfl) rfl rfl)) hF (by decide) (fun a hF => ?_)
        refine sq_yes hF rfl rfl he33 ?_
        obtain ⟨x37, hx38, h⟩ := bindS h
        refine sq_call hF pc146 rfl (by decide) (ok_rule_span (hS.enter trivial) hx38) (fun v W hR a hF => ?_)
        obtain ⟨rfl, hT39⟩ := hR
        have hS := hS.grow hT39.below
        refine sq_val (v_pick_t hF rfl he33 rfl) hF (by decide) (fun a hF => ?_)
        obtain rfl := Option.some.inj h
        exact sq_nil (then_j ⟨(hF.keep ⟨rfl, rfl, trivial⟩), hS⟩)
       ·
        have he33 : x27 = false := nB he33
        replace h := ifF he33 h
        refine sq_no hF rfl rfl he33 (by rintro x ⟨⟩; decide) (fun a hF => ?_)
        refine sq_no hF rfl rfl he33 (by rintro x ⟨⟩; decide) (fun a hF => ?_)
        refine sq_no hF rfl rfl he33 (by rintro x ⟨⟩; decide) (fun a hF => ?_)
        refine sq_val (v_pick_f hF rfl he33 rfl) hF (by decide) (fun a hF => ?_)
        obtain rfl := Option.some.inj h
        exact sq_nil (then_j ⟨(hF.keep ⟨rfl, rfl, trivial⟩), hS⟩)
     ·
      by_cases he26 : x20 = true
      ·
       replace h := ifT he26 h
       refine sq_yes hF rfl rfl he26 ?_
       refine sq_val (v_fieldAddr hF rfl pf65_4) hF (by decide) (fun a hF => ?_)
       refine sq_yes hF rfl rfl he26 ?_
       refine sq_val (v_load1 hF rfl pa3 (cells_sub (vs := [.int .i64 (u0.Hard)]) (hS.bc (i := 0) rfl) rfl rfl)) hF (by decide) (fun a hF => ?_)
       refine sq_yes hF rfl rfl he26 ?_
       obtain ⟨x30, hx31, h⟩ := bindS h
       refine sq_call hF pc146 rfl (by decide) (ok_rule_span (hS.enter trivial) hx31) (fun v W hR a hF => ?_)
       obtain ⟨rfl, hT32⟩ := hR
       have hS := hS.grow hT32.below
       refine sq_val (v_pick_t hF rfl he26 rfl) hF (by decide) (fun a hF => ?_)
       obtain rfl := Option.some.inj h
       exact sq_nil (then_j ⟨(hF.keep ⟨rfl, rfl, trivial⟩), hS⟩)
      ·
       have he26 : x20 = false := nB he26
       replace h := ifF he26 h
       refine sq_no hF rfl rfl he26 (by rintro x ⟨⟩; decide) (fun a hF => ?_)
       refine sq_no hF rfl rfl he26 (by rintro x ⟨⟩; decide) (fun a hF => ?_)
       refine sq_no hF rfl rfl he26 (by rintro x ⟨⟩; decide) (fun a hF => ?_)
       refine sq_val (v_pick_f hF rfl he26 rfl) hF (by decide) (fun a hF => ?_)
       obtain rfl := Option.some.inj h
       exact sq_nil (then_j ⟨(hF.keep ⟨rfl, rfl, trivial⟩), hS⟩)
    ·
     by_cases he19 : x13 = true
     ·
      replace h := ifT he19 h
      refine sq_yes hF rfl rfl he19 ?_
      refine sq_val (v_fieldAddr hF rfl pf65_3) hF (by decide) (fun a hF => ?_)
      refine sq_yes hF rfl rfl he19 ?_
      refine sq_val (v_load1 hF rfl pa3 (cells_sub (vs := [.int .i64 (u0.Idle)]) (hS.bc (i := 0) rfl) rfl rfl)) hF (by decide) (fun a hF => ?_)
      refine sq_yes hF rfl rfl he19 ?_
      obtain ⟨x23, hx24, h⟩ := bindS h
      refine sq_call hF pc146 rfl (by decide) (ok_rule_span (hS.enter trivial) hx24) (fun v W hR a hF => ?_)
      obtain ⟨rfl, hT25⟩ := hR
      have hS := hS.grow hT25.below
      refine sq_val (v_pick_t hF rfl he19 rfl) hF (by decide) (fun a hF => ?_)
      obtain rfl := Option.some.inj h
      exact sq_nil (then_j ⟨(hF.keep ⟨rfl, rfl, trivial⟩), hS⟩)
     ·
      have he19 : x13 = false := nB he19
      replace h := ifF he19 h
      refine sq_no hF rfl rfl he19 (by rintro x ⟨⟩; decide) (fun a hF => ?_)
      refine sq_no hF rfl rfl he19 (by rintro x ⟨⟩; decide) (fun a hF => ?_)
      refine sq_no hF rfl rfl he19 (by rintro x ⟨⟩; decide) (fun a hF => ?_)
      refine sq_val (v_pick_f hF rfl he19 rfl) hF (by decide) (fun a hF => ?_)
      obtain rfl := Option.some.inj h
      exact sq_nil (then_j ⟨(hF.keep ⟨rfl, rfl, trivial⟩), hS⟩)
   ·
    by_cases he12 : x6 = true
    ·
     replace h := ifT he12 h
     refine sq_yes hF rfl rfl he12 ?_
     refine sq_val (v_fieldAddr hF rfl pf65_1) hF (by decide) (fun a hF => ?_)
     refine sq_yes hF rfl rfl he12 ?_
     refine sq_val (v_load1 hF rfl pa3 (cells_sub (vs := [.int .i64 (u0.Prio)]) (hS.bc (i := 0) rfl) rfl rfl)) hF (by decide) (fun a hF => ?_)
     refine sq_yes hF rfl rfl he12 ?_
     obtain ⟨x16, hx17, h⟩ := bindS h
     refine sq_call hF pc146 rfl (by decide) (ok_rule_span (hS.enter trivial) hx17) (fun v W hR a hF => ?_)
     obtain ⟨rfl, hT18⟩ := hR
     have hS := hS.grow hT18.below
     refine sq_val (v_pick_t hF rfl he12 rfl) hF (by decide) (fun a hF => ?_)
     obtain rfl := Option.some.inj h
     exact sq_nil (then_j ⟨(hF.keep ⟨rfl, rfl, trivial⟩), hS⟩)
    ·
     have he12 : x6 = false := nB he12
     replace h := ifF he12 h
     refine sq_no hF rfl rfl he12 (by rintro x ⟨⟩; decide) (fun a hF => ?_)
     refine sq_no hF rfl rfl he12 (by rintro x ⟨⟩; decide) (fun a hF => ?_)
     refine sq_no hF rfl rfl he12 (by rintro x ⟨⟩; decide) (fun a hF => ?_)
     refine sq_val (v_pick_f hF rfl he12 rfl) hF (by decide) (fun a hF => ?_)
     obtain rfl := Option.some.inj h
     exact sq_nil (then_j ⟨(hF.keep ⟨rfl, rfl, trivial⟩), hS⟩)
  ·
   by_cases he5 : x2 = true
   ·
    replace h := ifT he5 h
    refine sq_yes hF rfl rfl he5 ?_
    refine sq_val (v_fieldAddr hF rfl pf65_2) hF (by decide) (fun a hF => ?_)
    refine sq_yes hF rfl rfl he5 ?_
    refine sq_val (v_load1 hF rfl pa38 (cells_sub (vs := [.slice A0_0 ((u0.Acts).length) c0_0]) (hS.bc (i := 0) rfl) rfl rfl)) hF (by decide) (fun a hF => ?_)
    refine sq_yes hF rfl rfl he5 ?_
    obtain ⟨x9, hx10, h⟩ := bindS h
    refine sq_call hF pc76 rfl (by decide) (ok_act_Sound k (hS.enter ⟨⟨0, rfl⟩, trivial⟩) hx10) (fun v W hR a hF => ?_)
    obtain ⟨rfl, hT11⟩ := hR
    have hS := hS.grow hT11.below
    refine sq_val (v_pick_t hF rfl he5 rfl) hF (by decide) (fun a hF => ?_)
    obtain rfl := Option.some.inj h
    exact sq_nil (then_j ⟨(hF.keep ⟨rfl, rfl, trivial⟩), hS⟩)
   ·
    have he5 : x2 = false := nB he5
    replace h := ifF he5 h
    refine sq_no hF rfl rfl he5 (by rintro x ⟨⟩; decide) (fun a hF => ?_)
    refine sq_no hF rfl rfl he5 (by rintro x ⟨⟩; decide) (fun a hF => ?_)
    refine sq_no hF rfl rfl he5 (by rintro x ⟨⟩; decide) (fun a hF => ?_)
    refine sq_val (v_pick_f hF rfl he5 rfl) hF (by decide) (fun a hF => ?_)
    obtain rfl := Option.some.inj h
    exact sq_nil (then_j ⟨(hF.keep ⟨rfl, rfl, trivial⟩), hS⟩)

theorem ok_slices_CompareFunc_uint64 (k : Nat) {M : Nat → Prop} {w0 : World} {u0 : List Int} {A0_0 : Option Addr} {c0_0 : Nat} {u1 : List Int} {A1_0 : Option Addr} {c1_0 : Nat} {F2 : FuncId} {caps2 : List Value} {u2 : Int → Int → Option Int} {o : Int} (hS : St M w0 [] [] [fSl (kInt .u64) A0_0 c0_0 u0, fSl (kInt .u64) A1_0 c1_0 u1, fFn2 Try.prog F2 caps2 (kInt .u64) false (kInt .u64) false u2 (fun y => .int .i64 y)] w0) (h : slices_CompareFunc_uint64 k u0 u1 u2 = some o) :
    Calls Try.prog 172 #[.slice A0_0 ((u0).length) c0_0, .slice A1_0 ((u1).length) c1_0, .func (.func F2) #[] caps2.toArray] w0 fun e W' => ∃ v, e = .returned v ∧ (v = .int .i64 (o) ∧ St M w0 [] [] [] W') := by
  unfold slices_CompareFunc_uint64 at h
  refine calls_start (args := [.slice A0_0 ((u0).length) c0_0, .slice A1_0 ((u1).length) c1_0, .func (.func F2) #[] caps2.toArray]) Try.func172 rfl rfl (Nat.le_of_ble_eq_true rfl) (fun a hF => ?_)
  refine wp_seq ?_
  refine wp_reg ?_
  refine sq_val (v_assign hF rfl) hF (by decide) (fun a hF => ?_)
  refine sq_nil ?_
  refine then_n ?_
  refine wp_seq ?_
  refine wp_seq ?_
  refine wp_reg ?_
  refine sq_val (v_move hF rfl) hF (by decide) (fun a hF => ?_)
  refine sq_val (v_len hF rfl pu166) hF (by decide) (fun a hF => ?_)
  refine sq_val (v_move hF rfl) hF (by decide) (fun a hF => ?_)
  refine sq_nil ?_
  refine then_n ?_
  obtain ⟨o3, h, hk4⟩ := bindS h
  refine wp_join (fun a W => Lo.brk () = o3 ∧ FH 39 [(0, .slice A0_0 ((u0).length) c0_0), (1, .slice A1_0 ((u1).length) c1_0)] a ∧ St M w0 [] [] [fSl (kInt .u64) A0_0 c0_0 u0, fSl (kInt .u64) A1_0 c1_0 u1] W) (fun a W hJ => ?_) ?_
  ·
   obtain ⟨rfl, hF, hS⟩ := hJ
   have h := hk4
   dsimp only at h
   refine then_n ?_
   refine wp_seq ?_
   refine wp_seq ?_
   refine wp_reg ?_
   refine sq_val (v_move hF rfl) hF (by decide) (fun a hF => ?_)
   refine sq_val (v_len hF rfl pu166) hF (by decide) (fun a hF => ?_)
   refine sq_val (v_move hF rfl) hF (by decide) (fun a hF => ?_)
   refine sq_val (v_len hF rfl pu166) hF (by decide) (fun a hF => ?_)
   refine sq_val (v_lss hF rfl rfl) hF (by decide) (fun a hF => ?_)
   refine sq_nil ?_
   refine then_n ?_
   refine wp_if hF rfl (fun he5 => ?_) (fun he5 => ?_)
   ·
    replace h := ifT he5 h
    refine wp_seq ?_
    refine wp_reg ?_
    refine sq_val (v_assign hF rfl) hF (by decide) (fun a hF => ?_)
    refine sq_nil ?_
    refine then_n ?_
    refine wp_ret ?_
    refine then_r ?_
    obtain rfl := Option.some.inj h
    exact ret1 hF rfl (rv_tmp hF rfl) ⟨_, rfl, rfl, (hS.keep (List.Sublist.refl _) (List.Sublist.refl _) trivial)⟩
   ·
    replace h := ifF he5 h
    refine wp_skip ?_
    refine then_n ?_
    refine wp_seq ?_
    refine wp_reg ?_
    refine sq_val (v_assign hF rfl) hF (by decide) (fun a hF => ?_)
    refine sq_nil ?_
    refine then_n ?_
    refine wp_ret ?_
    obtain rfl := Option.some.inj h
    exact ret1 hF rfl (rv_tmp hF rfl) ⟨_, rfl, rfl, (hS.keep (List.Sublist.refl _) (List.Sublist.refl _) trivial)⟩
  ·
   refine wp_block ?_
   refine wp_loop_fuel (I := fun m a W => ∃ (x2 : Int), FH 39 [(0, .slice A0_0 ((u0).length) c0_0), (1, .slice A1_0 ((u1).length) c1_0), (2, .func (.func F2) #[] caps2.toArray), (11, .slice A0_0 ((u0).length) c0_0), (12, .int .i64 ((u0.length : Int))), (13, .int .i64 (x2))] a ∧ St M w0 [] [] [fSl (kInt .u64) A0_0 c0_0 u0, fSl (kInt .u64) A1_0 c1_0 u1, fFn2 Try.prog F2 caps2 (kInt .u64) false (kInt .u64) false u2 (fun y => .int .i64 y)] W ∧ (slices_CompareFunc_uint64.l0 k u0 u1 u2 m x2) = some o3) ?_ (k := k) ⟨0, (hF.keep ⟨rfl, rfl, rfl, rfl, rfl, rfl, trivial⟩), hS, h⟩
   rintro m6 a W ⟨x2, hF, hS, h⟩
   cases m6 with
   | zero => cases h
   | succ m6 =>
    rw [slices_CompareFunc_uint64.l0] at h
    refine wp_seq ?_
    refine wp_reg ?_
    refine sq_val (v_lss hF rfl rfl) hF (by decide) (fun a hF => ?_)
    refine sq_nil ?_
    refine then_n ?_
    refine wp_seq ?_
    refine wp_if hF rfl (fun he7 => ?_) (fun he7 => ?_)
    ·
     replace h := ifT he7 h
     refine wp_skip ?_
     refine then_n ?_
     refine wp_seq ?_
     refine wp_block ?_
     refine wp_seq ?_
     refine wp_reg ?_
     refine sq_val (v_move hF rfl) hF (by decide) (fun a hF => ?_)
     obtain ⟨x8, hx9, h⟩ := bindS h
     obtain ⟨p10, cs11, hA12, hat13⟩ := SlR.at (hS.fc (i := 0) rfl) hx9
     obtain rfl : cs11 = [.int .u64 (x8)] := hat13.2.2.2
     have hS := hS.addFact (f := fAt (kInt .u64) (p10.add (x2.toNat * 1)) ([.int .u64 (x8)]) x8) hat13
     refine sq_val (v_idx hF rfl hA12 rfl psl166 hx9) hF (by decide) (fun a hF => ?_)
     refine sq_val (v_load1 hF rfl pa22 (hS.pc (i := 0) rfl)) hF (by decide) (fun a hF => ?_)
     refine sq_val (v_assign hF rfl) hF (by decide) (fun a hF => ?_)
     refine sq_val (v_assign hF rfl) hF (by decide) (fun a hF => ?_)
     refine sq_nil ?_
     refine then_n ?_
     refine wp_seq ?_
     refine wp_seq ?_
     refine wp_reg ?_
     refine sq_val (v_move hF rfl) hF (by decide) (fun a hF => ?_)
     refine sq_val (v_move hF rfl) hF (by decide) (fun a hF => ?_)
     refine sq_val (v_len hF rfl pu166) hF (by decide) (fun a hF => ?_)
     refine sq_val (v_geq hF rfl rfl) hF (by decide) (fun a hF => ?_)
     refine sq_nil ?_
     refine then_n ?_
     refine wp_if hF rfl (fun he14 => ?_) (fun he14 => ?_)
     ·
      replace h := ifT he14 h
      refine wp_seq ?_
      refine wp_reg ?_
      refine sq_val (v_assign hF rfl) hF (by decide) (fun a hF => ?_)
      refine sq_nil ?_
      refine then_n ?_
      refine wp_ret ?_
      refine then_r ?_
      refine blk_r ?_
      refine then_r ?_
      refine then_r ?_
      refine blk_r ?_
      refine then_r ?_
      refine then_r ?_
      obtain rfl := Option.some.inj h
      have h := hk4
      dsimp only at h
      obtain rfl := Option.some.inj h
      exact ret1 hF rfl (rv_tmp hF rfl) ⟨_, rfl, rfl, (hS.keep (List.Sublist.refl _) (List.Sublist.refl _) trivial)⟩
     ·
      replace h := ifF he14 h
      refine wp_skip ?_
      refine then_n ?_
      refine wp_seq ?_
      refine wp_reg ?_
      refine sq_val (v_move hF rfl) hF (by decide) (fun a hF => ?_)
      refine sq_val (v_move hF rfl) hF (by decide) (fun a hF => ?_)
      obtain ⟨x15, hx16, h⟩ := bindS h
      obtain ⟨p17, cs18, hA19, hat20⟩ := SlR.at (hS.fc (i := 2) rfl) hx16
      obtain rfl : cs18 = [.int .u64 (x15)] := hat20.2.2.2
      have hS := hS.addFact (f := fAt (kInt .u64) (p17.add (x2.toNat * 1)) ([.int .u64 (x15)]) x15) hat20
      refine sq_val (v_idx hF rfl hA19 rfl psl166 hx16) hF (by decide) (fun a hF => ?_)
      refine sq_val (v_load1 hF rfl pa22 (hS.pc (i := 0) rfl)) hF (by decide) (fun a hF => ?_)
      refine sq_val (v_assign hF rfl) hF (by decide) (fun a hF => ?_)
      refine sq_nil ?_
      refine then_n ?_
      refine wp_seq ?_
      refine wp_reg ?_
      refine sq_val (v_move hF rfl) hF (by decide) (fun a hF => ?_)
      refine sq_val (v_move hF rfl) hF (by decide) (fun a hF => ?_)
      refine sq_val (v_move hF rfl) hF (by decide) (fun a hF => ?_)
      obtain ⟨x21, hx22, h⟩ := bindS h
      refine sq_callv hF (hS.fc (i := 4) rfl).1 rfl rfl (by decide) (call2 (hS.fc (i := 4) rfl) hS rfl rfl hx22) (fun v W hR a hF => ?_)
      obtain ⟨rfl, hT23⟩ := hR
      have hS := hS.grow hT23
      refine sq_val (v_assign hF rfl) hF (by decide) (fun a hF => ?_)
      refine sq_nil ?_
      refine then_n ?_
      refine wp_seq ?_
      refine wp_reg ?_
      refine sq_val (v_move hF rfl) hF (by decide) (fun a hF => ?_)
      refine sq_val (v_neq hF rfl rfl) hF (by decide) (fun a hF => ?_)
      refine sq_nil ?_
      refine then_n ?_
      refine wp_if hF rfl (fun he24 => ?_) (fun he24 => ?_)
      ·
       replace h := ifT he24 h
       refine wp_seq ?_
       refine wp_reg ?_
       refine sq_val (v_move hF rfl) hF (by decide) (fun a hF => ?_)
       refine sq_val (v_assign hF rfl) hF (by decide) (fun a hF => ?_)
       refine sq_nil ?_
       refine then_n ?_
       refine wp_ret ?_
       refine blk_r ?_
       refine then_r ?_
       refine then_r ?_
       refine blk_r ?_
       refine then_r ?_
       refine then_r ?_
       obtain rfl := Option.some.inj h
       have h := hk4
       dsimp only at h
       obtain rfl := Option.some.inj h
       exact ret1 hF rfl (rv_tmp hF rfl) ⟨_, rfl, rfl, (hS.keep (List.Sublist.refl _) (List.Sublist.refl _) trivial)⟩
      ·
       replace h := ifF he24 h
       refine wp_skip ?_
       refine blk_n ?_
       refine then_n ?_
       refine wp_reg ?_
       refine sq_val (v_add hF rfl rfl) hF (by decide) (fun a hF => ?_)
       refine sq_val (v_move hF rfl) hF (by decide) (fun a hF => ?_)
       refine sq_nil ?_
       exact then_j ⟨m6, Nat.lt_succ_self _, (IntKind.i64.wrap (x2 + 1)), (hF.keep ⟨rfl, rfl, rfl, rfl, rfl, rfl, trivial⟩), (hS.keep (List.Sublist.refl _) (List.Sublist.refl _) ⟨⟨2, rfl⟩, ⟨3, rfl⟩, ⟨4, rfl⟩, trivial⟩), h⟩
    ·
     replace h := ifF he7 h
     refine wp_exit ?_
     refine then_x ?_
     refine then_x ?_
     refine blk_hit ?_
     obtain rfl := Option.some.inj h
     exact then_j ⟨rfl, (hF.keep ⟨rfl, rfl, trivial⟩), (hS.keep (List.Sublist.refl _) (List.Sublist.refl _) ⟨⟨0, rfl⟩, ⟨1, rfl⟩, trivial⟩)⟩

theorem ok_cmp_isNaN_uint64 {M : Nat → Prop} {w0 : World} {u0 : Int} {o : Bool} (hS : St M w0 [] [] [] w0) (h : cmp_isNaN_uint64 u0 = some o) :
    Calls Try.prog 194 #[.int .u64 (u0)] w0 fun e W' => ∃ v, e = .returned v ∧ (v = .bool (o) ∧ St M w0 [] [] [] W') := by
  unfold cmp_isNaN_uint64 at h
  refine calls_start (args := [.int .u64 (u0)]) Try.func194 rfl rfl (Nat.le_of_ble_eq_true rfl) (fun a hF => ?_)
  refine wp_seq ?_
  refine wp_reg ?_
  refine sq_val (v_assign hF rfl) hF (by decide) (fun a hF => ?_)
  refine sq_nil ?_
  refine then_n ?_
  refine wp_seq ?_
  refine wp_reg ?_
  refine sq_val (v_move hF rfl) hF (by decide) (fun a hF => ?_)
  refine sq_val (v_move hF rfl) hF (by decide) (fun a hF => ?_)
  refine sq_val (v_neq hF rfl rfl) hF (by decide) (fun a hF => ?_)
  refine sq_val (v_assign hF rfl) hF (by decide) (fun a hF => ?_)
  refine sq_nil ?_
  refine then_n ?_
  refine wp_ret ?_
  obtain rfl := Option.some.inj h
  exact ret1 hF rfl (rv_tmp hF rfl) ⟨_, rfl, rfl, hS⟩

theorem ok_cmp_Compare_uint64 {M : Nat → Prop} {w0 : World} {u0 : Int} {u1 : Int} {o : Int} (hS : St M w0 [] [] [] w0) (h : cmp_Compare_uint64 u0 u1 = some o) :
    Calls Try.prog 173 #[.int .u64 (u0), .int .u64 (u1)] w0 fun e W' => ∃ v, e = .returned v ∧ (v = .int .i64 (o) ∧ St M w0 [] [] [] W') := by
  unfold cmp_Compare_uint64 at h
  refine calls_start (args := [.int .u64 (u0), .int .u64 (u1)]) Try.func173 rfl rfl (Nat.le_of_ble_eq_true rfl) (fun a hF => ?_)
  refine wp_seq ?_
  refine wp_reg ?_
  refine sq_val (v_assign hF rfl) hF (by decide) (fun a hF => ?_)
  refine sq_nil ?_
  refine then_n ?_
  refine wp_seq ?_
  refine wp_reg ?_
  refine sq_val (v_move hF rfl) hF (by decide) (fun a hF => ?_)
  obtain ⟨x1, hx2, h⟩ := bindS h
  refine sq_call hF pc194 rfl (by decide) (ok_cmp_isNaN_uint64 (hS.enter trivial) hx2) (fun v W hR a hF => ?_)
  obtain ⟨rfl, hT3⟩ := hR
  have hS := hS.grow hT3.below
  refine sq_val (v_assign hF rfl) hF (by decide) (fun a hF => ?_)
  refine sq_nil ?_
  refine then_n ?_
  refine wp_seq ?_
  refine wp_reg ?_
  refine sq_val (v_move hF rfl) hF (by decide) (fun a hF => ?_)
  obtain ⟨x4, hx5, h⟩ := bindS h
  refine sq_call hF pc194 rfl (by decide) (ok_cmp_isNaN_uint64 (hS.enter trivial) hx5) (fun v W hR a hF => ?_)
  obtain ⟨rfl, hT6⟩ := hR
  have hS := hS.grow hT6.below
  refine sq_val (v_assign hF rfl) hF (by decide) (fun a hF => ?_)
  refine sq_nil ?_
  refine then_n ?_
  refine wp_seq ?_
  refine wp_seq ?_
  refine wp_reg ?_
  refine sq_val (v_move hF rfl) hF (by decide) (fun a hF => ?_)
  refine sq_nil ?_
  refine then_n ?_
  refine wp_if hF rfl (fun he7 => ?_) (fun he7 => ?_)
  ·
   replace h := ifT he7 h
   refine wp_seq ?_
   refine wp_seq ?_
   refine wp_reg ?_
   refine sq_val (v_move hF rfl) hF (by decide) (fun a hF => ?_)
   refine sq_nil ?_
   refine then_n ?_
   refine wp_if hF rfl (fun he8 => ?_) (fun he8 => ?_)
   ·
    replace h := ifT he8 h
    refine wp_seq ?_
    refine wp_reg ?_
    refine sq_val (v_assign hF rfl) hF (by decide) (fun a hF => ?_)
    refine sq_nil ?_
    refine then_n ?_
    refine wp_ret ?_
    refine then_r ?_
    refine then_r ?_
    obtain rfl := Option.some.inj h
    exact ret1 hF rfl (rv_tmp hF rfl) ⟨_, rfl, rfl, hS⟩
   ·
    replace h := ifF he8 h
    refine wp_skip ?_
    refine then_n ?_
    refine wp_seq ?_
    refine wp_reg ?_
    refine sq_val (v_assign hF rfl) hF (by decide) (fun a hF => ?_)
    refine sq_nil ?_
    refine then_n ?_
    refine wp_ret ?_
    refine then_r ?_
    obtain rfl := Option.some.inj h
    exact ret1 hF rfl (rv_tmp hF rfl) ⟨_, rfl, rfl, hS⟩
  ·
   replace h := ifF he7 h
   refine wp_skip ?_
   refine then_n ?_
   refine wp_seq ?_
   refine wp_seq ?_
   refine wp_reg ?_
   refine sq_val (v_move hF rfl) hF (by decide) (fun a hF => ?_)
   refine sq_nil ?_
   refine then_n ?_
   refine wp_if hF rfl (fun he9 => ?_) (fun he9 => ?_)
   ·
    replace h := ifT he9 h
    refine wp_seq ?_
    refine wp_reg ?_
    refine sq_val (v_assign hF rfl) hF (by decide) (fun a hF => ?_)
    refine sq_nil ?_
    refine then_n ?_
    refine wp_ret ?_
    refine then_r ?_
    obtain rfl := Option.some.inj h
    exact ret1 hF rfl (rv_tmp hF rfl) ⟨_, rfl, rfl, hS⟩
   ·
    replace h := ifF he9 h
    refine wp_skip ?_
    refine then_n ?_
    refine wp_seq ?_
    refine wp_seq ?_
    refine wp_reg ?_
    refine sq_val (v_move hF rfl) hF (by decide) (fun a hF => ?_)
    refine sq_val (v_move hF rfl) hF (by decide) (fun a hF => ?_)
    refine sq_val (v_lss hF rfl rfl) hF (by decide) (fun a hF => ?_)
    refine sq_nil ?_
    refine then_n ?_
    refine wp_if hF rfl (fun he10 => ?_) (fun he10 => ?_)
    ·
     replace h := ifT he10 h
     refine wp_seq ?_
     refine wp_reg ?_
     refine sq_val (v_assign hF rfl) hF (by decide) (fun a hF => ?_)
     refine sq_nil ?_
     refine then_n ?_
     refine wp_ret ?_
     refine then_r ?_
     obtain rfl := Option.some.inj h
     exact ret1 hF rfl (rv_tmp hF rfl) ⟨_, rfl, rfl, hS⟩
    ·
     replace h := ifF he10 h
     refine wp_skip ?_
     refine then_n ?_
     refine wp_seq ?_
     refine wp_seq ?_
     refine wp_reg ?_
     refine sq_val (v_move hF rfl) hF (by decide) (fun a hF => ?_)
     refine sq_val (v_move hF rfl) hF (by decide) (fun a hF => ?_)
     refine sq_val (v_gtr hF rfl rfl) hF (by decide) (fun a hF => ?_)
     refine sq_nil ?_
     refine then_n ?_
     refine wp_if hF rfl (fun he11 => ?_) (fun he11 => ?_)
     ·
      replace h := ifT he11 h
      refine wp_seq ?_
      refine wp_reg ?_
      refine sq_val (v_assign hF rfl) hF (by decide) (fun a hF => ?_)
      refine sq_nil ?_
      refine then_n ?_
      refine wp_ret ?_
      refine then_r ?_
      obtain rfl := Option.some.inj h
      exact ret1 hF rfl (rv_tmp hF rfl) ⟨_, rfl, rfl, hS⟩
     ·
      replace h := ifF he11 h
      refine wp_skip ?_
      refine then_n ?_
      refine wp_seq ?_
      refine wp_reg ?_
      refine sq_val (v_assign hF rfl) hF (by decide) (fun a hF => ?_)
      refine sq_nil ?_
      refine then_n ?_
      refine wp_ret ?_
      obtain rfl := Option.some.inj h
      exact ret1 hF rfl (rv_tmp hF rfl) ⟨_, rfl, rfl, hS⟩

theorem ok_head_Compare (k : Nat) {M : Nat → Prop} {w0 : World} {u0 : Arr 12} {u1 : Arr 12} {o : Int} (hS : St M w0 [] [] [] w0) (h : head_Compare k u0 u1 = some o) :
    Calls Try.prog 143 #[.agg (A12u64.enc u0).toArray, .agg (A12u64.enc u1).toArray] w0 fun e W' => ∃ v, e = .returned v ∧ (v = .int .i64 (o) ∧ St M w0 [] [] [] W') := by
  unfold head_Compare at h
  refine calls_start (args := [.agg (A12u64.enc u0).toArray, .agg (A12u64.enc u1).toArray]) Try.func143 rfl rfl (Nat.le_of_ble_eq_true rfl) (fun a hF => ?_)
  refine wp_seq ?_
  refine wp_reg ?_
  refine sq_box hF hS rfl rfl (by decide) (fun b1 a W hF hS => ?_)
  refine sq_box hF hS rfl rfl (by decide) (fun b2 a W hF hS => ?_)
  refine sq_val (v_assign hF rfl) hF (by decide) (fun a hF => ?_)
  refine sq_nil ?_
  refine then_n ?_
  refine wp_seq ?_
  have hS := hS.freezeBox (i := 1) rfl
  have hS := hS.addFact (f := fSl (kInt .u64) (some (⟨b1, 0, none⟩)) 12 (A12u64.list u0)) (fBox_sl (xs := (A12u64.list u0)) (hS.fc (i := 0) rfl) rfl (by show 12 ≤ maxLen; decide))
  have hS := hS.freezeBox (i := 0) rfl
  have hS := hS.addFact (f := fSl (kInt .u64) (some (⟨b2, 0, none⟩)) 12 (A12u64.list u1)) (fBox_sl (xs := (A12u64.list u1)) (hS.fc (i := 0) rfl) rfl (by show 12 ≤ maxLen; decide))
  refine wp_drawn (QC M w0 [] [] [fSl (kInt .u64) (some (⟨b2, 0, none⟩)) 12 (A12u64.list u1), fBox b2 (A12u64.enc u1) 24, fSl (kInt .u64) (some (⟨b1, 0, none⟩)) 12 (A12u64.list u0), fBox b1 (A12u64.enc u0) 24]) (fun _ => false) rfl hS (fun W hB0 hR0 => ?_)
  have hS := hR0
  have hQC : (QC M w0 [] [] [fSl (kInt .u64) (some (⟨b2, 0, none⟩)) 12 (A12u64.list u1), fBox b2 (A12u64.enc u1) 24, fSl (kInt .u64) (some (⟨b1, 0, none⟩)) 12 (A12u64.list u0), fBox b1 (A12u64.enc u0) 24]) W W := ⟨Bl.refl _ _, hS⟩
  refine e_val (listed' := #[true, false, false, false]) 0 rfl (by kernel_rfl) (by kernel_rfl) (fun _ _ _ h => h) (fun W => (v_sliceArr hF rfl par24)) hF (by decide) (fun a hF => ?_)
  refine e_val (listed' := #[true, true, false, false]) 1 rfl (by kernel_rfl) (by kernel_rfl) (fun _ _ _ h => h) (fun W => (v_sliceArr hF rfl par24)) hF (by decide) (fun a hF => ?_)
  refine e_one (listed' := #[true, true, true, false]) 2 rfl (by kernel_rfl) (by kernel_rfl) ?_
  have hS := hS.addFact (f := fFn2 Try.prog 173 ([]) (kInt .u64) false (kInt .u64) false (fun (a0 : Int) (a1 : Int) => cmp_Compare_uint64 a0 a1) (fun y => .int .i64 y)) ⟨pc173, fun M' W' hs hv cs a0 cs2 a1 y hR hR2 hp => by obtain rfl := hR; obtain rfl := hR2; exact fromSt (ok_cmp_Compare_uint64 (St.ofAll hv trivial) hp)⟩
  obtain ⟨x3, hx4, h⟩ := bindS h
  refine sq_call hF pc172 rfl (by decide) (ok_slices_CompareFunc_uint64 k (u0 := (A12u64.list u0)) (A0_0 := (some (⟨b1, 0, none⟩))) (c0_0 := 12) (u1 := (A12u64.list u1)) (A1_0 := (some (⟨b2, 0, none⟩))) (c1_0 := 12) (hS.enter ⟨⟨3, rfl⟩, ⟨1, rfl⟩, ⟨0, rfl⟩, trivial⟩) hx4) (fun v W hR a hF => ?_)
  obtain ⟨rfl, hT5⟩ := hR
  have hS := hS.grow hT5.below
  refine sq_nil (then_j ⟨?_, ?_⟩)
  · exact fun hQ0 _ => hQ0.next hT5.below
  ·
   have hQC := hQC.next hT5.below
   refine e_val (listed' := #[true, true, true, true]) 3 rfl (by kernel_rfl) (by kernel_rfl) (fun _ _ _ h => h) (fun W => (v_assign hF rfl)) hF (by decide) (fun a hF => ?_)
   refine e_done (by kernel_rfl) ?_ _
   refine then_n ?_
   refine wp_ret ?_
   obtain rfl := Option.some.inj h
   exact ret1 hF rfl (rv_tmp hF rfl) ⟨_, rfl, rfl, (hS.keep (List.Sublist.refl _) (List.Sublist.refl _) trivial)⟩

theorem ok_cmp_Or_int (k : Nat) {M : Nat → Prop} {w0 : World} {u0 : List Int} {A0_0 : Option Addr} {c0_0 : Nat} {o : Int} (hS : St M w0 [] [] [fSl (kInt .i64) A0_0 c0_0 u0] w0) (h : cmp_Or_int k u0 = some o) :
    Calls Try.prog 138 #[.slice A0_0 ((u0).length) c0_0] w0 fun e W' => ∃ v, e = .returned v ∧ (v = .int .i64 (o) ∧ St M w0 [] [] [] W') := by
  unfold cmp_Or_int at h
  refine calls_start (args := [.slice A0_0 ((u0).length) c0_0]) Try.func138 rfl rfl (Nat.le_of_ble_eq_true rfl) (fun a hF => ?_)
  refine wp_seq ?_
  refine wp_reg ?_
  refine sq_val (v_assign hF rfl) hF (by decide) (fun a hF => ?_)
  refine sq_nil ?_
  refine then_n ?_
  refine wp_seq ?_
  refine wp_reg ?_
  refine sq_val (v_assign hF rfl) hF (by decide) (fun a hF => ?_)
  refine sq_nil ?_
  refine then_n ?_
  refine wp_seq ?_
  refine wp_seq ?_
  refine wp_reg ?_
  refine sq_val (v_move hF rfl) hF (by decide) (fun a hF => ?_)
  refine sq_val (v_len hF rfl pu76) hF (by decide) (fun a hF => ?_)
  refine sq_val (v_move hF rfl) hF (by decide) (fun a hF => ?_)
  refine sq_nil ?_
  refine then_n ?_
  obtain ⟨o3, h, hk4⟩ := bindS h
  refine wp_join (fun a W => Lo.brk () = o3 ∧ FH 18 [(3, .int .i64 (0))] a ∧ St M w0 [] [] [] W) (fun a W hJ => ?_) ?_
  ·
   obtain ⟨rfl, hF, hS⟩ := hJ
   have h := hk4
   dsimp only at h
   refine then_n ?_
   refine wp_seq ?_
   refine wp_reg ?_
   refine sq_val (v_move hF rfl) hF (by decide) (fun a hF => ?_)
   refine sq_val (v_assign hF rfl) hF (by decide) (fun a hF => ?_)
   refine sq_nil ?_
   refine then_n ?_
   refine wp_ret ?_
   obtain rfl := Option.some.inj h
   exact ret1 hF rfl (rv_tmp hF rfl) ⟨_, rfl, rfl, hS⟩
  ·
   refine wp_block ?_
   refine wp_loop_fuel (I := fun m a W => ∃ (x2 : Int), FH 18 [(3, .int .i64 (0)), (6, .slice A0_0 ((u0).length) c0_0), (7, .int .i64 ((u0.length : Int))), (8, .int .i64 (x2))] a ∧ St M w0 [] [] [fSl (kInt .i64) A0_0 c0_0 u0] W ∧ (cmp_Or_int.l0 k u0 m x2) = some o3) ?_ (k := k) ⟨0, (hF.keep ⟨rfl, rfl, rfl, rfl, trivial⟩), hS, h⟩
   rintro m5 a W ⟨x2, hF, hS, h⟩
   cases m5 with
   | zero => cases h
   | succ m5 =>
    rw [cmp_Or_int.l0] at h
    refine wp_seq ?_
    refine wp_reg ?_
    refine sq_val (v_lss hF rfl rfl) hF (by decide) (fun a hF => ?_)
    refine sq_nil ?_
    refine then_n ?_
    refine wp_seq ?_
    refine wp_if hF rfl (fun he6 => ?_) (fun he6 => ?_)
    ·
     replace h := ifT he6 h
     refine wp_skip ?_
     refine then_n ?_
     refine wp_seq ?_
     refine wp_block ?_
     refine wp_seq ?_
     refine wp_reg ?_
     obtain ⟨x7, hx8, h⟩ := bindS h
     obtain ⟨p9, cs10, hA11, hat12⟩ := SlR.at (hS.fc (i := 0) rfl) hx8
     obtain rfl : cs10 = [.int .i64 (x7)] := hat12.2.2.2
     have hS := hS.addFact (f := fAt (kInt .i64) (p9.add (x2.toNat * 1)) ([.int .i64 (x7)]) x7) hat12
     refine sq_val (v_idx hF rfl hA11 rfl psl76 hx8) hF (by decide) (fun a hF => ?_)
     refine sq_val (v_load1 hF rfl pa3 (hS.pc (i := 0) rfl)) hF (by decide) (fun a hF => ?_)
     refine sq_val (v_assign hF rfl) hF (by decide) (fun a hF => ?_)
     refine sq_nil ?_
     refine then_n ?_
     refine wp_seq ?_
     refine wp_reg ?_
     refine sq_val (v_move hF rfl) hF (by decide) (fun a hF => ?_)
     refine sq_val (v_move hF rfl) hF (by decide) (fun a hF => ?_)
     refine sq_val (v_neq hF rfl rfl) hF (by decide) (fun a hF => ?_)
     refine sq_nil ?_
     refine then_n ?_
     refine wp_if hF rfl (fun he13 => ?_) (fun he13 => ?_)
     ·
      replace h := ifT he13 h
      refine wp_seq ?_
      refine wp_reg ?_
      refine sq_val (v_move hF rfl) hF (by decide) (fun a hF => ?_)
      refine sq_val (v_assign hF rfl) hF (by decide) (fun a hF => ?_)
      refine sq_nil ?_
      refine then_n ?_
      refine wp_ret ?_
      refine blk_r ?_
      refine then_r ?_
      refine then_r ?_
      refine blk_r ?_
      refine then_r ?_
      refine then_r ?_
      obtain rfl := Option.some.inj h
      have h := hk4
      dsimp only at h
      obtain rfl := Option.some.inj h
      exact ret1 hF rfl (rv_tmp hF rfl) ⟨_, rfl, rfl, (hS.keep (List.Sublist.refl _) (List.Sublist.refl _) trivial)⟩
     ·
      replace h := ifF he13 h
      refine wp_skip ?_
      refine blk_n ?_
      refine then_n ?_
      refine wp_reg ?_
      refine sq_val (v_add hF rfl rfl) hF (by decide) (fun a hF => ?_)
      refine sq_val (v_move hF rfl) hF (by decide) (fun a hF => ?_)
      refine sq_nil ?_
      exact then_j ⟨m5, Nat.lt_succ_self _, (IntKind.i64.wrap (x2 + 1)), (hF.keep ⟨rfl, rfl, rfl, rfl, trivial⟩), (hS.keep (List.Sublist.refl _) (List.Sublist.refl _) ⟨⟨1, rfl⟩, trivial⟩), h⟩
    ·
     replace h := ifF he6 h
     refine wp_exit ?_
     refine then_x ?_
     refine then_x ?_
     refine blk_hit ?_
     obtain rfl := Option.some.inj h
     exact then_j ⟨rfl, (hF.keep ⟨rfl, trivial⟩), (hS.keep (List.Sublist.refl _) (List.Sublist.refl _) trivial)⟩

theorem ok_cube_Compare (k : Nat) {M : Nat → Prop} {w0 : World} {u0 : TCube} {u1 : TCube} {o : Int} (hS : St M w0 [] [] [] w0) (h : cube_Compare k u0 u1 = some o) :
    Calls Try.prog 95 #[.agg (TCube.enc u0).toArray, .agg (TCube.enc u1).toArray] w0 fun e W' => ∃ v, e = .returned v ∧ (v = .int .i64 (o) ∧ St M w0 [] [] [] W') := by
  unfold cube_Compare at h
  refine calls_start (args := [.agg (TCube.enc u0).toArray, .agg (TCube.enc u1).toArray]) Try.func95 rfl rfl (Nat.le_of_ble_eq_true rfl) (fun a hF => ?_)
  refine wp_seq ?_
  refine wp_reg ?_
  refine sq_box hF hS rfl rfl (by decide) (fun b1 a W hF hS => ?_)
  refine sq_box hF hS rfl rfl (by decide) (fun b2 a W hF hS => ?_)
  refine sq_val (v_assign hF rfl) hF (by decide) (fun a hF => ?_)
  refine sq_nil ?_
  refine then_n ?_
  refine wp_seq ?_
  refine wp_drawn (fun _ => St M w0 [⟨b2, TCube.enc u1, 26⟩, ⟨b1, TCube.enc u0, 26⟩] [] []) (fun _ => false) rfl hS (fun W hB0 hR0 => ?_)
  have hS := hR0
  have hQC : (fun _ => St M w0 [⟨b2, TCube.enc u1, 26⟩, ⟨b1, TCube.enc u0, 26⟩] [] []) W W := hS
  refine e_val (listed' := #[true, false, false, false, false, false, false, false, false, false, false, false, false]) 0 rfl (by kernel_rfl) (by kernel_rfl) (fun _ _ _ h => h) (fun W => (v_fieldAddr hF rfl pf26_1)) hF (by decide) (fun a hF => ?_)
  refine e_valS (listed' := #[true, true, false, false, false, false, false, false, false, false, false, false, false]) 1 rfl (by kernel_rfl) (by kernel_rfl) (fun _ _ _ h => h) (fun W hC => (v_load (cs := A12u64.enc u0.Care) hF rfl pa24 ps24 (cells_sub (vs := A12u64.enc u0.Care) (hC.bc (i := 1) rfl) rfl rfl))) hQC (by kernel_rfl) hF (by decide) (fun a hF => ?_)
  refine e_val (listed' := #[true, true, true, false, false, false, false, false, false, false, false, false, false]) 2 rfl (by kernel_rfl) (by kernel_rfl) (fun _ _ _ h => h) (fun W => (v_fieldAddr hF rfl pf26_1)) hF (by decide) (fun a hF => ?_)
  refine e_valS (listed' := #[true, true, true, true, false, false, false, false, false, false, false, false, false]) 3 rfl (by kernel_rfl) (by kernel_rfl) (fun _ _ _ h => h) (fun W hC => (v_load (cs := A12u64.enc u1.Care) hF rfl pa24 ps24 (cells_sub (vs := A12u64.enc u1.Care) (hC.bc (i := 0) rfl) rfl rfl))) hQC (by kernel_rfl) hF (by decide) (fun a hF => ?_)
  refine e_val (listed' := #[true, true, true, true, false, true, false, false, false, false, false, false, false]) 5 rfl (by kernel_rfl) (by kernel_rfl) (fun _ _ _ h => h) (fun W => (v_fieldAddr hF rfl pf26_0)) hF (by decide) (fun a hF => ?_)
  refine e_valS (listed' := #[true, true, true, true, false, true, true, false, false, false, false, false, false]) 6 rfl (by kernel_rfl) (by kernel_rfl) (fun _ _ _ h => h) (fun W hC => (v_load (cs := A12u64.enc u0.Value) hF rfl pa24 ps24 (cells_sub (vs := A12u64.enc u0.Value) (hC.bc (i := 1) rfl) rfl rfl))) hQC (by kernel_rfl) hF (by decide) (fun a hF => ?_)
  refine e_val (listed' := #[true, true, true, true, false, true, true, true, false, false, false, false, false]) 7 rfl (by kernel_rfl) (by kernel_rfl) (fun _ _ _ h => h) (fun W => (v_fieldAddr hF rfl pf26_0)) hF (by decide) (fun a hF => ?_)
  refine e_valS (listed' := #[true, true, true, true, false, true, true, true, true, false, false, false, false]) 8 rfl (by kernel_rfl) (by kernel_rfl) (fun _ _ _ h => h) (fun W hC => (v_load (cs := A12u64.enc u1.Value) hF rfl pa24 ps24 (cells_sub (vs := A12u64.enc u1.Value) (hC.bc (i := 0) rfl) rfl rfl))) hQC (by kernel_rfl) hF (by decide) (fun a hF => ?_)
  refine e_one (listed' := #[true, true, true, true, true, true, true, true, true, false, false, false, false]) 4 rfl (by kernel_rfl) (by kernel_rfl) ?_
  obtain ⟨x3, hx4, h⟩ := bindS h
  refine sq_call hF pc143 rfl (by decide) (ok_head_Compare k (hS.enter trivial) hx4) (fun v W hR a hF => ?_)
  obtain ⟨rfl, hT5⟩ := hR
  have hS := hS.grow hT5.below
  refine sq_nil (then_j ⟨?_, ?_⟩)
  · exact fun _ _ => hS
  ·
   have hQC : (fun _ => St M w0 [⟨b2, TCube.enc u1, 26⟩, ⟨b1, TCube.enc u0, 26⟩] [] []) W W := hS
   refine e_one (listed' := #[true, true, true, true, true, true, true, true, true, true, false, false, false]) 9 rfl (by kernel_rfl) (by kernel_rfl) ?_
   obtain ⟨x6, hx7, h⟩ := bindS h
   refine sq_call hF pc143 rfl (by decide) (ok_head_Compare k (hS.enter trivial) hx7) (fun v W hR a hF => ?_)
   obtain ⟨rfl, hT8⟩ := hR
   have hS := hS.grow hT8.below
   refine sq_nil (then_j ⟨?_, ?_⟩)
   · exact fun _ _ => hS
   ·
    have hQC : (fun _ => St M w0 [⟨b2, TCube.enc u1, 26⟩, ⟨b1, TCube.enc u0, 26⟩] [] []) W W := hS
    refine e_one (listed' := #[true, true, true, true, true, true, true, true, true, true, true, false, false]) 10 rfl (by kernel_rfl) (by kernel_rfl) ?_
    refine sq_buildSlice (κ := (kInt .i64)) (xs := [.tmp 9, .tmp 14]) (ys := [x3, x6]) hF hS rfl rfl rfl (Els.cons rfl (Els.cons rfl (Els.nil _ _ _))) rfl psl76 pz3 rfl (by decide) (by decide) (by decide) (fun A9 c10 a W hF hS => ?_)
    refine sq_nil (then_j ⟨?_, ?_⟩)
    · exact fun _ _ => (hS.keep (List.Sublist.refl _) (List.nil_sublist _) trivial)
    ·
     have hQC : (fun _ => St M w0 [⟨b2, TCube.enc u1, 26⟩, ⟨b1, TCube.enc u0, 26⟩] [] []) W W := (hS.keep (List.Sublist.refl _) (List.nil_sublist _) trivial)
     refine e_one (listed' := #[true, true, true, true, true, true, true, true, true, true, true, true, false]) 11 rfl (by kernel_rfl) (by kernel_rfl) ?_
     obtain ⟨x11, hx12, h⟩ := bindS h
     refine sq_call hF pc138 rfl (by decide) (ok_cmp_Or_int k (u0 := [x3, x6]) (A0_0 := A9) (c0_0 := c10) ((hS.freeze (i := 0) rfl (posB rfl)).enter ⟨⟨0, rfl⟩, trivial⟩) hx12) (fun v W hR a hF => ?_)
     obtain ⟨rfl, hT13⟩ := hR
     have hS := hS.grow hT13.below
     refine sq_nil (then_j ⟨?_, ?_⟩)
     · exact fun _ _ => (hS.keep (List.Sublist.refl _) (List.nil_sublist _) trivial)
     ·
      have hQC : (fun _ => St M w0 [⟨b2, TCube.enc u1, 26⟩, ⟨b1, TCube.enc u0, 26⟩] [] []) W W := (hS.keep (List.Sublist.refl _) (List.nil_sublist _) trivial)
      refine e_val (listed' := #[true, true, true, true, true, true, true, true, true, true, true, true, true]) 12 rfl (by kernel_rfl) (by kernel_rfl) (fun _ _ _ h => h) (fun W => (v_assign hF rfl)) hF (by decide) (fun a hF => ?_)
      refine e_done (by kernel_rfl) ?_ _
      refine then_n ?_
      refine wp_ret ?_
      obtain rfl := Option.some.inj h
      exact ret1 hF rfl (rv_tmp hF rfl) ⟨_, rfl, rfl, (hS.keep (List.nil_sublist _) (List.nil_sublist _) trivial)⟩

theorem ok_rule_compare (k : Nat) {M : Nat → Prop} {w0 : World} {u0 : TRule} {A0_0 : Option Addr} {c0_0 : Nat} {u1 : TRule} {A1_0 : Option Addr} {c1_0 : Nat} {o : Int} (hS : St M w0 [] [] [fSl k_TAct A0_0 c0_0 u0.Acts, fSl k_TAct A1_0 c1_0 u1.Acts] w0) (h : rule_compare k u0 u1 = some o) :
    Calls Try.prog 147 #[.agg (TRule.enc u0 A0_0 c0_0).toArray, .agg (TRule.enc u1 A1_0 c1_0).toArray] w0 fun e W' => ∃ v, e = .returned v ∧ (v = .int .i64 (o) ∧ St M w0 [] [] [] W') := by
  unfold rule_compare at h
  refine calls_start (args := [.agg (TRule.enc u0 A0_0 c0_0).toArray, .agg (TRule.enc u1 A1_0 c1_0).toArray]) Try.func147 rfl rfl (Nat.le_of_ble_eq_true rfl) (fun a hF => ?_)
  refine wp_seq ?_
  refine wp_reg ?_
  refine sq_box hF hS rfl rfl (by decide) (fun b1 a W hF hS => ?_)
  refine sq_box hF hS rfl rfl (by decide) (fun b2 a W hF hS => ?_)
  refine sq_val (v_assign hF rfl) hF (by decide) (fun a hF => ?_)
  refine sq_nil ?_
  refine then_n ?_
  refine wp_seq ?_
  refine wp_seq ?_
  refine wp_reg ?_
  refine sq_val (v_fieldAddr hF rfl pf65_1) hF (by decide) (fun a hF => ?_)
  refine sq_val (v_load1 hF rfl pa3 (cells_sub (vs := [.int .i64 (u0.Prio)]) (hS.bc (i := 1) rfl) rfl rfl)) hF (by decide) (fun a hF => ?_)
  refine sq_val (v_fieldAddr hF rfl pf65_1) hF (by decide) (fun a hF => ?_)
  refine sq_val (v_load1 hF rfl pa3 (cells_sub (vs := [.int .i64 (u1.Prio)]) (hS.bc (i := 0) rfl) rfl rfl)) hF (by decide) (fun a hF => ?_)
  refine sq_val (v_neq hF rfl rfl) hF (by decide) (fun a hF => ?_)
  refine sq_nil ?_
  refine then_n ?_
  refine wp_if hF rfl (fun he3 => ?_) (fun he3 => ?_)
  ·
   replace h := ifT he3 h
   refine wp_seq ?_
   refine wp_seq ?_
   refine wp_reg ?_
   refine sq_val (v_fieldAddr hF rfl pf65_1) hF (by decide) (fun a hF => ?_)
   refine sq_val (v_load1 hF rfl pa3 (cells_sub (vs := [.int .i64 (u0.Prio)]) (hS.bc (i := 1) rfl) rfl rfl)) hF (by decide) (fun a hF => ?_)
   refine sq_val (v_fieldAddr hF rfl pf65_1) hF (by decide) (fun a hF => ?_)
   refine sq_val (v_load1 hF rfl pa3 (cells_sub (vs := [.int .i64 (u1.Prio)]) (hS.bc (i := 0) rfl) rfl rfl)) hF (by decide) (fun a hF => ?_)
   refine sq_val (v_gtr hF rfl rfl) hF (by decide) (fun a hF => ?_)
   refine sq_nil ?_
   refine then_n ?_
   refine wp_if hF rfl (fun he4 => ?_) (fun he4 => ?_)
   ·
    replace h := ifT he4 h
    refine wp_seq ?_
    refine wp_reg ?_
    refine sq_val (v_assign hF rfl) hF (by decide) (fun a hF => ?_)
    refine sq_nil ?_
    refine then_n ?_
    refine wp_ret ?_
    refine then_r ?_
    refine then_r ?_
    obtain rfl := Option.some.inj h
    exact ret1 hF rfl (rv_tmp hF rfl) ⟨_, rfl, rfl, (hS.keep (List.nil_sublist _) (List.Sublist.refl _) trivial)⟩
   ·
    replace h := ifF he4 h
    refine wp_skip ?_
    refine then_n ?_
    refine wp_seq ?_
    refine wp_reg ?_
    refine sq_val (v_assign hF rfl) hF (by decide) (fun a hF => ?_)
    refine sq_nil ?_
    refine then_n ?_
    refine wp_ret ?_
    refine then_r ?_
    obtain rfl := Option.some.inj h
    exact ret1 hF rfl (rv_tmp hF rfl) ⟨_, rfl, rfl, (hS.keep (List.nil_sublist _) (List.Sublist.refl _) trivial)⟩
  ·
   replace h := ifF he3 h
   refine wp_skip ?_
   refine then_n ?_
   refine wp_seq ?_
   refine wp_reg ?_
   refine sq_val (v_fieldAddr hF rfl pf65_0) hF (by decide) (fun a hF => ?_)
   refine sq_val (v_load (cs := TCube.enc u0.Match) hF rfl pa26 ps26 (cells_sub (vs := TCube.enc u0.Match) (hS.bc (i := 1) rfl) rfl rfl)) hF (by decide) (fun a hF => ?_)
   refine sq_val (v_fieldAddr hF rfl pf65_0) hF (by decide) (fun a hF => ?_)
   refine sq_val (v_load (cs := TCube.enc u1.Match) hF rfl pa26 ps26 (cells_sub (vs := TCube.enc u1.Match) (hS.bc (i := 0) rfl) rfl rfl)) hF (by decide) (fun a hF => ?_)
   obtain ⟨x5, hx6, h⟩ := bindS h
   refine sq_call hF pc95 rfl (by decide) (ok_cube_Compare k (hS.enter trivial) hx6) (fun v W hR a hF => ?_)
   obtain ⟨rfl, hT7⟩ := hR
   have hS := hS.grow hT7.below
   refine sq_val (v_assign hF rfl) hF (by decide) (fun a hF => ?_)
   refine sq_nil ?_
   refine then_n ?_
   refine wp_ret ?_
   obtain rfl := Option.some.inj h
   exact ret1 hF rfl (rv_tmp hF rfl) ⟨_, rfl, rfl, (hS.keep (List.nil_sublist _) (List.Sublist.refl _) trivial)⟩

theorem ok_rule_Before (k : Nat) {M : Nat → Prop} {w0 : World} {u0 : TRule} {A0_0 : Option Addr} {c0_0 : Nat} {u1 : TRule} {A1_0 : Option Addr} {c1_0 : Nat} {o : Bool} (hS : St M w0 [] [] [fSl k_TAct A0_0 c0_0 u0.Acts, fSl k_TAct A1_0 c1_0 u1.Acts] w0) (h : rule_Before k u0 u1 = some o) :
    Calls Try.prog 118 #[.agg (TRule.enc u0 A0_0 c0_0).toArray, .agg (TRule.enc u1 A1_0 c1_0).toArray] w0 fun e W' => ∃ v, e = .returned v ∧ (v = .bool (o) ∧ St M w0 [] [] [] W') := by
  unfold rule_Before at h
  refine calls_start (args := [.agg (TRule.enc u0 A0_0 c0_0).toArray, .agg (TRule.enc u1 A1_0 c1_0).toArray]) Try.func118 rfl rfl (Nat.le_of_ble_eq_true rfl) (fun a hF => ?_)
  refine wp_seq ?_
  refine wp_reg ?_
  refine sq_box hF hS rfl rfl (by decide) (fun b1 a W hF hS => ?_)
  refine sq_box hF hS rfl rfl (by decide) (fun b2 a W hF hS => ?_)
  refine sq_val (v_assign hF rfl) hF (by decide) (fun a hF => ?_)
  refine sq_nil ?_
  refine then_n ?_
  refine wp_seq ?_
  refine wp_reg ?_
  refine sq_val (v_load (cs := TRule.enc u0 A0_0 c0_0) hF rfl pa65 ps65 (hS.bc (i := 1) rfl)) hF (by decide) (fun a hF => ?_)
  refine sq_val (v_load (cs := TRule.enc u1 A1_0 c1_0) hF rfl pa65 ps65 (hS.bc (i := 0) rfl)) hF (by decide) (fun a hF => ?_)
  obtain ⟨x3, hx4, h⟩ := bindS h
  refine sq_call hF pc147 rfl (by decide) (ok_rule_compare k (hS.enter ⟨⟨0, rfl⟩, ⟨1, rfl⟩, trivial⟩) hx4) (fun v W hR a hF => ?_)
  obtain ⟨rfl, hT5⟩ := hR
  have hS := hS.grow hT5.below
  refine sq_val (v_lss hF rfl rfl) hF (by decide) (fun a hF => ?_)
  refine sq_val (v_assign hF rfl) hF (by decide) (fun a hF => ?_)
  refine sq_nil ?_
  refine then_n ?_
  refine wp_ret ?_
  obtain rfl := Option.some.inj h
  exact ret1 hF rfl (rv_tmp hF rfl) ⟨_, rfl, rfl, (hS.keep (List.nil_sublist _) (List.Sublist.refl _) trivial)⟩

theorem ok_rule_Table (k : Nat) {M : Nat → Prop} {w0 : World} {u0 : List TRule} {A0_0 : Option Addr} {c0_0 : Nat} {o : Bool} (hS : St M w0 [] [] [fSl k_TRule A0_0 c0_0 u0] w0) (h : rule_Table k u0 = some o) :
    Calls Try.prog 65 #[.slice A0_0 ((u0).length) c0_0] w0 fun e W' => ∃ v, e = .returned v ∧ (v = .bool (o) ∧ St M w0 [] [] [] W') := by
  unfold rule_Table at h
  refine calls_start (args := [.slice A0_0 ((u0).length) c0_0]) Try.func65 rfl rfl (Nat.le_of_ble_eq_true rfl) (fun a hF => ?_)
  refine wp_seq ?_
  refine wp_reg ?_
  refine sq_val (v_assign hF rfl) hF (by decide) (fun a hF => ?_)
  refine sq_nil ?_
  refine then_n ?_
  refine wp_seq ?_
  refine wp_seq ?_
  refine wp_reg ?_
  refine sq_val (v_move hF rfl) hF (by decide) (fun a hF => ?_)
  refine sq_val (v_len hF rfl pu37) hF (by decide) (fun a hF => ?_)
  refine sq_val (v_move hF rfl) hF (by decide) (fun a hF => ?_)
  refine sq_nil ?_
  refine then_n ?_
  obtain ⟨o3, h, hk4⟩ := bindS h
  refine wp_join (fun a W => Lo.brk () = o3 ∧ FH 30 [] a ∧ St M w0 [] [] [] W) (fun a W hJ => ?_) ?_
  ·
   obtain ⟨rfl, hF, hS⟩ := hJ
   have h := hk4
   dsimp only at h
   refine then_n ?_
   refine wp_seq ?_
   refine wp_reg ?_
   refine sq_val (v_assign hF rfl) hF (by decide) (fun a hF => ?_)
   refine sq_nil ?_
   refine then_n ?_
   refine wp_ret ?_
   obtain rfl := Option.some.inj h
   exact ret1 hF rfl (rv_tmp hF rfl) ⟨_, rfl, rfl, hS⟩
  ·
   refine wp_block ?_
   refine wp_loop_fuel (I := fun m a W => ∃ (x2 : Int), FH 30 [(0, .slice A0_0 ((u0).length) c0_0), (5, .slice A0_0 ((u0).length) c0_0), (6, .int .i64 ((u0.length : Int))), (7, .int .i64 (x2))] a ∧ St M w0 [] [] [fSl k_TRule A0_0 c0_0 u0] W ∧ (rule_Table.l0 k u0 m x2) = some o3) ?_ (k := k) ⟨0, (hF.keep ⟨rfl, rfl, rfl, rfl, trivial⟩), hS, h⟩
   rintro m5 a W ⟨x2, hF, hS, h⟩
   cases m5 with
   | zero => cases h
   | succ m5 =>
    rw [rule_Table.l0] at h
    refine wp_seq ?_
    refine wp_reg ?_
    refine sq_val (v_lss hF rfl rfl) hF (by decide) (fun a hF => ?_)
    refine sq_nil ?_
    refine then_n ?_
    refine wp_seq ?_
    refine wp_if hF rfl (fun he6 => ?_) (fun he6 => ?_)
    ·
     replace h := ifT he6 h
     refine wp_skip ?_
     refine then_n ?_
     refine wp_seq ?_
     refine wp_block ?_
     refine wp_seq ?_
     refine wp_reg ?_
     refine sq_val (v_move hF rfl) hF (by decide) (fun a hF => ?_)
     obtain ⟨x7, hx8, h⟩ := bindS h
     obtain ⟨p9, cs10, hA11, hat12⟩ := SlR.at (hS.fc (i := 0) rfl) hx8
     obtain ⟨A13, c14, rfl, hs15⟩ := hat12.2.2.2
     have hS := hS.addFact (f := fAt k_TRule (p9.add (x2.toNat * 32)) (TRule.enc x7 A13 c14) x7) hat12
     have hS := hS.addFact (f := fSl k_TAct A13 c14 x7.Acts) hs15
     refine sq_val (v_idx hF rfl hA11 rfl psl37 hx8) hF (by decide) (fun a hF => ?_)
     refine sq_val (v_load (cs := TRule.enc x7 A13 c14) hF rfl pa65 ps65 (hS.pc (i := 1) rfl)) hF (by decide) (fun a hF => ?_)
     refine sq_alloc hF hS pz65 rfl (by decide) (fun b16 a W hF hS => ?_)
     refine sq_val (v_assign hF rfl) hF (by decide) (fun a hF => ?_)
     refine sq_store (o := 0) (vs := TRule.enc x7 A13 c14) (cs' := TRule.enc x7 A13 c14) hF hS rfl rfl (i := 0) rfl rfl rfl ps65 (TRule.enc_one _ _ _) (Nat.le_of_ble_eq_true rfl) rfl (fun W hS => ?_)
     refine sq_nil ?_
     refine then_n ?_
     refine wp_seq ?_
     refine wp_quiet rfl (by kernel_rfl) hS ?_
     refine qt_val (fun W hC => (v_load (cs := TRule.enc x7 A13 c14) hF rfl pa65 ps65 (hC.2.bc (i := 0) rfl))) hF (by decide) (fun a hF => ?_)
     obtain ⟨x17, hx18, h⟩ := bindS h
     refine qt_call hF pc117 rfl (by decide) (fun W hC => q_of hC (ok_rule_Sound k (hC.2.enter ⟨⟨0, rfl⟩, trivial⟩) hx18)) (fun a hF => ?_)
     refine qt_val (fun W hC => (v_not hF rfl)) hF (by decide) (fun a hF => ?_)
     refine qt_val (fun W hC => (v_move hF rfl)) hF (by decide) (fun a hF => ?_)
     obtain ⟨x20, h, hk22⟩ := bindS h
     refine qt_cut 13 (fun a => FH 30 [(0, .slice A0_0 ((u0).length) c0_0), (5, .slice A0_0 ((u0).length) c0_0), (6, .int .i64 ((u0.length : Int))), (7, .int .i64 (x2)), (28, .bool x20)] a) (fun a hF => ?_) ?_
     ·
      have h := hk22
      refine qt_nil ?_
      intro W hC
      have hS := hC.2
      refine then_n ?_
      refine wp_if hF rfl (fun he38 => ?_) (fun he38 => ?_)
      ·
       replace h := ifT he38 h
       refine wp_seq ?_
       refine wp_reg ?_
       refine sq_val (v_assign hF rfl) hF (by decide) (fun a hF => ?_)
       refine sq_nil ?_
       refine then_n ?_
       refine wp_ret ?_
       refine blk_r ?_
       refine then_r ?_
       refine then_r ?_
       refine blk_r ?_
       refine then_r ?_
       refine then_r ?_
       obtain rfl := Option.some.inj h
       have h := hk4
       dsimp only at h
       obtain rfl := Option.some.inj h
       exact ret1 hF rfl (rv_tmp hF rfl) ⟨_, rfl, rfl, (hS.keep (List.nil_sublist _) (List.Sublist.refl _) trivial)⟩
      ·
       replace h := ifF he38 h
       refine wp_skip ?_
       refine blk_n ?_
       refine then_n ?_
       refine wp_reg ?_
       refine sq_val (v_add hF rfl rfl) hF (by decide) (fun a hF => ?_)
       refine sq_val (v_move hF rfl) hF (by decide) (fun a hF => ?_)
       refine sq_nil ?_
       exact then_j ⟨m5, Nat.lt_succ_self _, (IntKind.i64.wrap (x2 + 1)), (hF.keep ⟨rfl, rfl, rfl, rfl, trivial⟩), (hS.keep (List.nil_sublist _) (List.Sublist.refl _) ⟨⟨2, rfl⟩, trivial⟩), h⟩
     ·
      by_cases he19 : (!x17) = true
      ·
       replace h := ifT he19 h
       refine qt_no hF rfl rfl he19 (by decide) (fun a hF => ?_)
       refine qt_no hF rfl rfl he19 (by decide) (fun a hF => ?_)
       refine qt_no hF rfl rfl he19 (by decide) (fun a hF => ?_)
       refine qt_no2 hF rfl rfl (by decide) (fun a hF => ?_)
       refine qt_no2 hF rfl rfl (by decide) (fun a hF => ?_)
       refine qt_no2 hF rfl rfl (by decide) (fun a hF => ?_)
       refine qt_no2 hF rfl rfl (by decide) (fun a hF => ?_)
       refine qt_no2 hF rfl rfl (by decide) (fun a hF => ?_)
       refine qt_no2 hF rfl rfl (by decide) (fun a hF => ?_)
       refine qt_no2 hF rfl rfl (by decide) (fun a hF => ?_)
       refine qt_no2 hF rfl rfl (by decide) (fun a hF => ?_)
       refine qt_no hF rfl rfl he19 (by decide) (fun a hF => ?_)
       refine qt_val (fun W hC => (v_pick_t hF rfl he19 rfl)) hF (by decide) (fun a hF => ?_)
       obtain rfl := Option.some.inj h
       exact qt_nil (hF.keep ⟨rfl, rfl, rfl, rfl, rfl, trivial⟩)
      ·
       have he19 : (!x17) = false := nB he19
       replace h := ifF he19 h
       refine qt_yes hF rfl rfl he19 ?_
       refine qt_val (fun W hC => (v_move hF rfl)) hF (by decide) (fun a hF => ?_)
       refine qt_yes hF rfl rfl he19 ?_
       refine qt_val (fun W hC => (v_gtr hF rfl rfl)) hF (by decide) (fun a hF => ?_)
       refine qt_yes hF rfl rfl he19 ?_
       refine qt_val (fun W hC => (v_move hF rfl)) hF (by decide) (fun a hF => ?_)
       obtain ⟨x24, h, hk26⟩ := bindS h
       refine qt_cut 9 (fun a => FH 30 [(0, .slice A0_0 ((u0).length) c0_0), (5, .slice A0_0 ((u0).length) c0_0), (6, .int .i64 ((u0.length : Int))), (7, .int .i64 (x2)), (15, .bool ((!x17))), (16, .int .i64 (x2)), (17, .bool ((decide (0 < x2)))), (18, .bool ((decide (0 < x2)))), (27, .bool x24)] a) (fun a hF => ?_) ?_
       ·
        have h := hk26
        refine qt_val (fun W hC => (v_pick_f hF rfl he19 rfl)) hF (by decide) (fun a hF => ?_)
        obtain rfl := Option.some.inj h
        exact qt_nil (hF.keep ⟨rfl, rfl, rfl, rfl, rfl, trivial⟩)
       ·
        by_cases he23 : (decide (0 < x2)) = true
        ·
         replace h := ifT he23 h
         refine qt_yes hF rfl rfl he23 ?_
         refine qt_val (fun W hC => (v_move hF rfl)) hF (by decide) (fun a hF => ?_)
         refine qt_yes hF rfl rfl he23 ?_
         refine qt_val (fun W hC => (v_move hF rfl)) hF (by decide) (fun a hF => ?_)
         refine qt_yes hF rfl rfl he23 ?_
         refine qt_val (fun W hC => (v_sub hF rfl rfl)) hF (by decide) (fun a hF => ?_)
         refine qt_yes hF rfl rfl he23 ?_
         obtain ⟨x27, hx28, h⟩ := bindS h
         obtain ⟨p29, cs30, hA31, hat32⟩ := SlR.at (hS.fc (i := 2) rfl) hx28
         obtain ⟨A33, c34, rfl, hs35⟩ := hat32.2.2.2
         refine qt_val (fun W hC => (v_idx hF rfl hA31 rfl psl37 hx28)) hF (by decide) (fun a hF => ?_)
         refine qt_yes hF rfl rfl he23 ?_
         refine qt_val (fun W hC => (v_load (cs := TRule.enc x27 A33 c34) hF rfl pa65 ps65 (hat32.2.2.1.grow hC.1))) hF (by decide) (fun a hF => ?_)
         refine qt_yes hF rfl rfl he23 ?_
         refine qt_val (fun W hC => (v_load (cs := TRule.enc x7 A13 c14) hF rfl pa65 ps65 (hC.2.bc (i := 0) rfl))) hF (by decide) (fun a hF => ?_)
         refine qt_yes hF rfl rfl he23 ?_
         obtain ⟨x36, hx37, h⟩ := bindS h
         refine qt_call hF pc118 rfl (by decide) (fun W hC => q_of hC (ok_rule_Before k ((hC.2.addFact (f := fSl k_TAct A33 c34 x27.Acts) ((fSl k_TAct A33 c34 x27.Acts).st hs35 (Stp.below hC.1))).enter ⟨⟨0, rfl⟩, ⟨1, rfl⟩, trivial⟩) hx37)) (fun a hF => ?_)
         refine qt_yes hF rfl rfl he23 ?_
         refine qt_val (fun W hC => (v_not hF rfl)) hF (by decide) (fun a hF => ?_)
         refine qt_yes hF rfl rfl he19 ?_
         refine qt_val (fun W hC => (v_pick_t hF rfl he23 rfl)) hF (by decide) (fun a hF => ?_)
         obtain rfl := Option.some.inj h
         exact qt_nil (hF.keep ⟨rfl, rfl, rfl, rfl, rfl, rfl, rfl, rfl, rfl, trivial⟩)
        ·
         have he23 : (decide (0 < x2)) = false := nB he23
         replace h := ifF he23 h
         refine qt_no hF rfl rfl he23 (by decide) (fun a hF => ?_)
         refine qt_no hF rfl rfl he23 (by decide) (fun a hF => ?_)
         refine qt_no hF rfl rfl he23 (by decide) (fun a hF => ?_)
         refine qt_no hF rfl rfl he23 (by decide) (fun a hF => ?_)
         refine qt_no hF rfl rfl he23 (by decide) (fun a hF => ?_)
         refine qt_no hF rfl rfl he23 (by decide) (fun a hF => ?_)
         refine qt_no hF rfl rfl he23 (by decide) (fun a hF => ?_)
         refine qt_no hF rfl rfl he23 (by decide) (fun a hF => ?_)
         refine qt_yes hF rfl rfl he19 ?_
         refine qt_val (fun W hC => (v_pick_f hF rfl he23 rfl)) hF (by decide) (fun a hF => ?_)
         obtain rfl := Option.some.inj h
         exact qt_nil (hF.keep ⟨rfl, rfl, rfl, rfl, rfl, rfl, rfl, rfl, rfl, trivial⟩)
    ·
     replace h := ifF he6 h
     refine wp_exit ?_
     refine then_x ?_
     refine then_x ?_
     refine blk_hit ?_
     obtain rfl := Option.some.inj h
     exact then_j ⟨rfl, (hF.keep trivial), (hS.keep (List.Sublist.refl _) (List.Sublist.refl _) trivial)⟩
end Go.Proofs.Ytangebngeeamoaa
