/- What calls of the Go functions come to. -/
import Derived.Test.YtangebngeeamoaaW8
set_option linter.unusedVariables false
set_option linter.unusedSimpArgs false
set_option maxRecDepth 100000
set_option maxHeartbeats 4000000
namespace Go.Proofs.Ytangebngeeamoaa
open Go.RowKit Go.Pod
theorem ok_ref04_Rule (k : Nat) {M : Nat → Prop} {w0 : World} {u0 : TRule} {A0_0 : Option Addr} {c0_0 : Nat} {o : Bool} (hS : St M w0 [] [] [fSl k_TAct A0_0 c0_0 u0.Acts] w0) (h : ref04_Rule k u0 = some o) :
    Calls Try.prog 81 #[.agg (TRule.enc u0 A0_0 c0_0).toArray] w0 fun e W' => ∃ v, e = .returned v ∧ (v = .bool (o) ∧ St M w0 [] [] [] W') := by
  unfold ref04_Rule at h
  refine calls_start (args := [.agg (TRule.enc u0 A0_0 c0_0).toArray]) Try.func81 rfl rfl (Nat.le_of_ble_eq_true rfl) (fun a hF => ?_)
  refine wp_seq ?_
  refine wp_reg ?_
  refine sq_box hF hS rfl rfl (by decide) (fun b1 a W hF hS => ?_)
  refine sq_val (v_assign hF rfl) hF (by decide) (fun a hF => ?_)
  refine sq_nil ?_
  refine then_n ?_
  refine wp_seq ?_
  refine wp_reg ?_
  refine sq_val (v_fieldAddr hF rfl pf65_0) hF (by decide) (fun a hF => ?_)
  refine sq_val (v_load (cs := TCube.enc u0.Match) hF rfl pa26 ps26 (cells_sub (vs := TCube.enc u0.Match) (hS.bc (i := 0) rfl) rfl rfl)) hF (by decide) (fun a hF => ?_)
  obtain ⟨x2, hx3, h⟩ := bindS h
  refine sq_call hF pc17 rfl (by decide) (ok_ref01_Cube k (hS.enter trivial) hx3) (fun v W hR a hF => ?_)
  obtain ⟨rfl, hT4⟩ := hR
  have hS := hS.grow hT4.below
  refine sq_val (v_move hF rfl) hF (by decide) (fun a hF => ?_)
  obtain ⟨x6, h, hk8⟩ := bindS h
  refine sq_cut 4 (fun a W => FH 46 [(1, .pointer (some (⟨b1, 0, none⟩))), (10, .bool x6)] a ∧ St M w0 [⟨b1, TRule.enc u0 A0_0 c0_0, 65⟩] [] [fSl k_TAct A0_0 c0_0 u0.Acts] W) (fun a W hJ => ?_) ?_
  ·
   have h := hk8
   obtain ⟨hF, hS⟩ := hJ
   refine sq_val (v_move hF rfl) hF (by decide) (fun a hF => ?_)
   obtain ⟨x13, h, hk15⟩ := bindS h
   refine sq_cut 4 (fun a W => FH 46 [(1, .pointer (some (⟨b1, 0, none⟩))), (15, .bool x13)] a ∧ St M w0 [⟨b1, TRule.enc u0 A0_0 c0_0, 65⟩] [] [fSl k_TAct A0_0 c0_0 u0.Acts] W) (fun a W hJ => ?_) ?_
   ·
    have h := hk15
    obtain ⟨hF, hS⟩ := hJ
    refine sq_val (v_move hF rfl) hF (by decide) (fun a hF => ?_)
    obtain ⟨x20, h, hk22⟩ := bindS h
    refine sq_cut 4 (fun a W => FH 46 [(1, .pointer (some (⟨b1, 0, none⟩))), (20, .bool x20)] a ∧ St M w0 [⟨b1, TRule.enc u0 A0_0 c0_0, 65⟩] [] [fSl k_TAct A0_0 c0_0 u0.Acts] W) (fun a W hJ => ?_) ?_
    ·
     have h := hk22
     obtain ⟨hF, hS⟩ := hJ
     refine sq_val (v_move hF rfl) hF (by decide) (fun a hF => ?_)
     obtain ⟨x27, h, hk29⟩ := bindS h
     refine sq_cut 4 (fun a W => FH 46 [(1, .pointer (some (⟨b1, 0, none⟩))), (25, .bool x27)] a ∧ St M w0 [⟨b1, TRule.enc u0 A0_0 c0_0, 65⟩] [] [fSl k_TAct A0_0 c0_0 u0.Acts] W) (fun a W hJ => ?_) ?_
     ·
      have h := hk29
      obtain ⟨hF, hS⟩ := hJ
      refine sq_val (v_move hF rfl) hF (by decide) (fun a hF => ?_)
      obtain ⟨x34, h, hk36⟩ := bindS h
      refine sq_cut 4 (fun a W => FH 46 [(1, .pointer (some (⟨b1, 0, none⟩))), (30, .bool x34)] a ∧ St M w0 [⟨b1, TRule.enc u0 A0_0 c0_0, 65⟩] [] [fSl k_TAct A0_0 c0_0 u0.Acts] W) (fun a W hJ => ?_) ?_
      ·
       have h := hk36
       obtain ⟨hF, hS⟩ := hJ
       refine sq_val (v_move hF rfl) hF (by decide) (fun a hF => ?_)
       refine sq_cut 4 (fun a W => FH 46 [(1, .pointer (some (⟨b1, 0, none⟩))), (35, .bool (x34 && (decide (0 ≤ u0.Hits))))] a ∧ St M w0 [⟨b1, TRule.enc u0 A0_0 c0_0, 65⟩] [] [fSl k_TAct A0_0 c0_0 u0.Acts] W) (fun a W hJ => ?_) ?_
       ·
        obtain ⟨hF, hS⟩ := hJ
        refine sq_val (v_move hF rfl) hF (by decide) (fun a hF => ?_)
        refine sq_cut 4 (fun a W => FH 46 [(1, .pointer (some (⟨b1, 0, none⟩))), (40, .bool ((x34 && (decide (0 ≤ u0.Hits))) && (decide (0 ≤ u0.Quiet))))] a ∧ St M w0 [⟨b1, TRule.enc u0 A0_0 c0_0, 65⟩] [] [fSl k_TAct A0_0 c0_0 u0.Acts] W) (fun a W hJ => ?_) ?_
        ·
         obtain ⟨hF, hS⟩ := hJ
         refine sq_val (v_move hF rfl) hF (by decide) (fun a hF => ?_)
         refine sq_cut 4 (fun a W => FH 46 [(45, .bool (((x34 && (decide (0 ≤ u0.Hits))) && (decide (0 ≤ u0.Quiet))) && (decide (0 ≤ u0.Age))))] a ∧ St M w0 [⟨b1, TRule.enc u0 A0_0 c0_0, 65⟩] [] [fSl k_TAct A0_0 c0_0 u0.Acts] W) (fun a W hJ => ?_) ?_
         ·
          obtain ⟨hF, hS⟩ := hJ
          refine sq_val (v_assign hF rfl) hF (by decide) (fun a hF => ?_)
          refine sq_nil ?_
          refine then_n ?_
          refine wp_ret ?_
          obtain rfl := Option.some.inj h
          exact ret1 hF rfl (rv_tmp hF rfl) ⟨_, rfl, rfl, (hS.keep (List.nil_sublist _) (List.Sublist.refl _) trivial)⟩
         ·
          by_cases he42 : ((x34 && (decide (0 ≤ u0.Hits))) && (decide (0 ≤ u0.Quiet))) = true
          ·
           refine sq_yes hF rfl rfl he42 ?_
           refine sq_val (v_fieldAddr hF rfl pf65_8) hF (by decide) (fun a hF => ?_)
           refine sq_yes hF rfl rfl he42 ?_
           refine sq_val (v_load1 hF rfl pa3 (cells_sub (vs := [.int .i64 (u0.Age)]) (hS.bc (i := 0) rfl) rfl rfl)) hF (by decide) (fun a hF => ?_)
           refine sq_yes hF rfl rfl he42 ?_
           refine sq_val (v_geq hF rfl rfl) hF (by decide) (fun a hF => ?_)
           refine sq_val (v_pick_t hF rfl he42 rfl) hF (by decide) (fun a hF => ?_)
           exact sq_nil (then_j ⟨(hF.keep ⟨(boolV (and_t he42)), trivial⟩), hS⟩)
          ·
           have he42 : ((x34 && (decide (0 ≤ u0.Hits))) && (decide (0 ≤ u0.Quiet))) = false := nB he42
           refine sq_no hF rfl rfl he42 (by rintro x ⟨⟩; decide) (fun a hF => ?_)
           refine sq_no hF rfl rfl he42 (by rintro x ⟨⟩; decide) (fun a hF => ?_)
           refine sq_no hF rfl rfl he42 (by rintro x ⟨⟩; decide) (fun a hF => ?_)
           refine sq_val (v_pick_f hF rfl he42 rfl) hF (by decide) (fun a hF => ?_)
           exact sq_nil (then_j ⟨(hF.keep ⟨(boolV (and_f he42)), trivial⟩), hS⟩)
        ·
         by_cases he41 : (x34 && (decide (0 ≤ u0.Hits))) = true
         ·
          refine sq_yes hF rfl rfl he41 ?_
          refine sq_val (v_fieldAddr hF rfl pf65_7) hF (by decide) (fun a hF => ?_)
          refine sq_yes hF rfl rfl he41 ?_
          refine sq_val (v_load1 hF rfl pa3 (cells_sub (vs := [.int .i64 (u0.Quiet)]) (hS.bc (i := 0) rfl) rfl rfl)) hF (by decide) (fun a hF => ?_)
          refine sq_yes hF rfl rfl he41 ?_
          refine sq_val (v_geq hF rfl rfl) hF (by decide) (fun a hF => ?_)
          refine sq_val (v_pick_t hF rfl he41 rfl) hF (by decide) (fun a hF => ?_)
          exact sq_nil (then_j ⟨(hF.keep ⟨rfl, (boolV (and_t he41)), trivial⟩), hS⟩)
         ·
          have he41 : (x34 && (decide (0 ≤ u0.Hits))) = false := nB he41
          refine sq_no hF rfl rfl he41 (by rintro x ⟨⟩; decide) (fun a hF => ?_)
          refine sq_no hF rfl rfl he41 (by rintro x ⟨⟩; decide) (fun a hF => ?_)
          refine sq_no hF rfl rfl he41 (by rintro x ⟨⟩; decide) (fun a hF => ?_)
          refine sq_val (v_pick_f hF rfl he41 rfl) hF (by decide) (fun a hF => ?_)
          exact sq_nil (then_j ⟨(hF.keep ⟨rfl, (boolV (and_f he41)), trivial⟩), hS⟩)
       ·
        by_cases he40 : x34 = true
        ·
         refine sq_yes hF rfl rfl he40 ?_
         refine sq_val (v_fieldAddr hF rfl pf65_6) hF (by decide) (fun a hF => ?_)
         refine sq_yes hF rfl rfl he40 ?_
         refine sq_val (v_load1 hF rfl pa3 (cells_sub (vs := [.int .i64 (u0.Hits)]) (hS.bc (i := 0) rfl) rfl rfl)) hF (by decide) (fun a hF => ?_)
         refine sq_yes hF rfl rfl he40 ?_
         refine sq_val (v_geq hF rfl rfl) hF (by decide) (fun a hF => ?_)
         refine sq_val (v_pick_t hF rfl he40 rfl) hF (by decide) (fun a hF => ?_)
         exact sq_nil (then_j ⟨(hF.keep ⟨rfl, (boolV (and_t he40)), trivial⟩), hS⟩)
        ·
         have he40 : x34 = false := nB he40
         refine sq_no hF rfl rfl he40 (by rintro x ⟨⟩; decide) (fun a hF => ?_)
         refine sq_no hF rfl rfl he40 (by rintro x ⟨⟩; decide) (fun a hF => ?_)
         refine sq_no hF rfl rfl he40 (by rintro x ⟨⟩; decide) (fun a hF => ?_)
         refine sq_val (v_pick_f hF rfl he40 rfl) hF (by decide) (fun a hF => ?_)
         exact sq_nil (then_j ⟨(hF.keep ⟨rfl, (boolV (and_f he40)), trivial⟩), hS⟩)
      ·
       by_cases he33 : x27 = true
       ·
        replace h := ifT he33 h
        refine sq_yes hF rfl rfl he33 ?_
        refine sq_val (v_fieldAddr hF rfl pf65_5) hF (by decide) (fun a hF => ?_)
        refine sq_yes hF rfl rfl he33 ?_
        refine sq_val (v_load1 hF rfl pa3 (cells_sub (vs := [.int .i64 (u0.Owner)]) (hS.bc (i := 0) rfl) rfl rfl)) hF (by decide) (fun a hF => ?_)
        refine sq_yes hF rfl rfl he33 ?_
        obtain ⟨x37, hx38, h⟩ := bindS h
        refine sq_call hF pc80 rfl (by decide) (ok_ref04_span (hS.enter trivial) hx38) (fun v W hR a hF => ?_)
        obtain ⟨rfl, hT39⟩ := hR
        have hS := hS.grow hT39.below
        refine sq_val (v_pick_t hF rfl he33 rfl) hF (by decide) (fun a hF => ?_)
        obtain rfl := Option.some.inj h
        exact sq_nil (then_j ⟨(hF.keep ⟨rfl, rfl, trivial⟩), hS⟩)
       ·
        have he33 : x27 = false := nB he33
        replace h := ifF he33 h
        refine sq_no hF rfl rfl he33 (by rintro x ⟨⟩; decide) (fun a hF => ?_)
        refine sq_no hF rfl rfl he33 (by rintro x ⟨⟩; decide) (fun a hF => ?_)
        refine sq_no hF rfl rfl he33 (by rintro x ⟨⟩; decide) (fun a hF => ?_)
        refine sq_val (v_pick_f hF rfl he33 rfl) hF (by decide) (fun a hF => ?_)
        obtain rfl := Option.some.inj h
        exact sq_nil (then_j ⟨(hF.keep ⟨rfl, rfl, trivial⟩), hS⟩)
     ·
      by_cases he26 : x20 = true
      ·
       replace h := ifT he26 h
       refine sq_yes hF rfl rfl he26 ?_
       refine sq_val (v_fieldAddr hF rfl pf65_4) hF (by decide) (fun a hF => ?_)
       refine sq_yes hF rfl rfl he26 ?_
       refine sq_val (v_load1 hF rfl pa3 (cells_sub (vs := [.int .i64 (u0.Hard)]) (hS.bc (i := 0) rfl) rfl rfl)) hF (by decide) (fun a hF => ?_)
       refine sq_yes hF rfl rfl he26 ?_
       obtain ⟨x30, hx31, h⟩ := bindS h
       refine sq_call hF pc80 rfl (by decide) (ok_ref04_span (hS.enter trivial) hx31) (fun v W hR a hF => ?_)
       obtain ⟨rfl, hT32⟩ := hR
       have hS := hS.grow hT32.below
       refine sq_val (v_pick_t hF rfl he26 rfl) hF (by decide) (fun a hF => ?_)
       obtain rfl := Option.some.inj h
       exact sq_nil (then_j ⟨(hF.keep ⟨rfl, rfl, trivial⟩), hS⟩)
      ·
       have he26 : x20 = false := nB he26
       replace h := ifF he26 h
       refine sq_no hF rfl rfl he26 (by rintro x ⟨⟩; decide) (fun a hF => ?_)
       refine sq_no hF rfl rfl he26 (by rintro x ⟨⟩; decide) (fun a hF => ?_)
       refine sq_no hF rfl rfl he26 (by rintro x ⟨⟩; decide) (fun a hF => ?_)
       refine sq_val (v_pick_f hF rfl he26 rfl) hF (by decide) (fun a hF => ?_)
       obtain rfl := Option.some.inj h
       exact sq_nil (then_j ⟨(hF.keep ⟨rfl, rfl, trivial⟩), hS⟩)
    ·
     by_cases he19 : x13 = true
     ·
      replace h := ifT he19 h
      refine sq_yes hF rfl rfl he19 ?_
      refine sq_val (v_fieldAddr hF rfl pf65_3) hF (by decide) (fun a hF => ?_)
      refine sq_yes hF rfl rfl he19 ?_
      refine sq_val (v_load1 hF rfl pa3 (cells_sub (vs := [.int .i64 (u0.Idle)]) (hS.bc (i := 0) rfl) rfl rfl)) hF (by decide) (fun a hF => ?_)
      refine sq_yes hF rfl rfl he19 ?_
      obtain ⟨x23, hx24, h⟩ := bindS h
      refine sq_call hF pc80 rfl (by decide) (ok_ref04_span (hS.enter trivial) hx24) (fun v W hR a hF => ?_)
      obtain ⟨rfl, hT25⟩ := hR
      have hS := hS.grow hT25.below
      refine sq_val (v_pick_t hF rfl he19 rfl) hF (by decide) (fun a hF => ?_)
      obtain rfl := Option.some.inj h
      exact sq_nil (then_j ⟨(hF.keep ⟨rfl, rfl, trivial⟩), hS⟩)
     ·
      have he19 : x13 = false := nB he19
      replace h := ifF he19 h
      refine sq_no hF rfl rfl he19 (by rintro x ⟨⟩; decide) (fun a hF => ?_)
      refine sq_no hF rfl rfl he19 (by rintro x ⟨⟩; decide) (fun a hF => ?_)
      refine sq_no hF rfl rfl he19 (by rintro x ⟨⟩; decide) (fun a hF => ?_)
      refine sq_val (v_pick_f hF rfl he19 rfl) hF (by decide) (fun a hF => ?_)
      obtain rfl := Option.some.inj h
      exact sq_nil (then_j ⟨(hF.keep ⟨rfl, rfl, trivial⟩), hS⟩)
   ·
    by_cases he12 : x6 = true
    ·
     replace h := ifT he12 h
     refine sq_yes hF rfl rfl he12 ?_
     refine sq_val (v_fieldAddr hF rfl pf65_1) hF (by decide) (fun a hF => ?_)
     refine sq_yes hF rfl rfl he12 ?_
     refine sq_val (v_load1 hF rfl pa3 (cells_sub (vs := [.int .i64 (u0.Prio)]) (hS.bc (i := 0) rfl) rfl rfl)) hF (by decide) (fun a hF => ?_)
     refine sq_yes hF rfl rfl he12 ?_
     obtain ⟨x16, hx17, h⟩ := bindS h
     refine sq_call hF pc80 rfl (by decide) (ok_ref04_span (hS.enter trivial) hx17) (fun v W hR a hF => ?_)
     obtain ⟨rfl, hT18⟩ := hR
     have hS := hS.grow hT18.below
     refine sq_val (v_pick_t hF rfl he12 rfl) hF (by decide) (fun a hF => ?_)
     obtain rfl := Option.some.inj h
     exact sq_nil (then_j ⟨(hF.keep ⟨rfl, rfl, trivial⟩), hS⟩)
    ·
     have he12 : x6 = false := nB he12
     replace h := ifF he12 h
     refine sq_no hF rfl rfl he12 (by rintro x ⟨⟩; decide) (fun a hF => ?_)
     refine sq_no hF rfl rfl he12 (by rintro x ⟨⟩; decide) (fun a hF => ?_)
     refine sq_no hF rfl rfl he12 (by rintro x ⟨⟩; decide) (fun a hF => ?_)
     refine sq_val (v_pick_f hF rfl he12 rfl) hF (by decide) (fun a hF => ?_)
     obtain rfl := Option.some.inj h
     exact sq_nil (then_j ⟨(hF.keep ⟨rfl, rfl, trivial⟩), hS⟩)
  ·
   by_cases he5 : x2 = true
   ·
    replace h := ifT he5 h
    refine sq_yes hF rfl rfl he5 ?_
    refine sq_val (v_fieldAddr hF rfl pf65_2) hF (by decide) (fun a hF => ?_)
    refine sq_yes hF rfl rfl he5 ?_
    refine sq_val (v_load1 hF rfl pa38 (cells_sub (vs := [.slice A0_0 ((u0.Acts).length) c0_0]) (hS.bc (i := 0) rfl) rfl rfl)) hF (by decide) (fun a hF => ?_)
    refine sq_yes hF rfl rfl he5 ?_
    obtain ⟨x9, hx10, h⟩ := bindS h
    refine sq_call hF pc79 rfl (by decide) (ok_ref04_Acts k (hS.enter ⟨⟨0, rfl⟩, trivial⟩) hx10) (fun v W hR a hF => ?_)
    obtain ⟨rfl, hT11⟩ := hR
    have hS := hS.grow hT11.below
    refine sq_val (v_pick_t hF rfl he5 rfl) hF (by decide) (fun a hF => ?_)
    obtain rfl := Option.some.inj h
    exact sq_nil (then_j ⟨(hF.keep ⟨rfl, rfl, trivial⟩), hS⟩)
   ·
    have he5 : x2 = false := nB he5
    replace h := ifF he5 h
    refine sq_no hF rfl rfl he5 (by rintro x ⟨⟩; decide) (fun a hF => ?_)
    refine sq_no hF rfl rfl he5 (by rintro x ⟨⟩; decide) (fun a hF => ?_)
    refine sq_no hF rfl rfl he5 (by rintro x ⟨⟩; decide) (fun a hF => ?_)
    refine sq_val (v_pick_f hF rfl he5 rfl) hF (by decide) (fun a hF => ?_)
    obtain rfl := Option.some.inj h
    exact sq_nil (then_j ⟨(hF.keep ⟨rfl, rfl, trivial⟩), hS⟩)

theorem ok_ref01_Order (k : Nat) {M : Nat → Prop} {w0 : World} {u0 : Arr 12} {u1 : Arr 12} {o : Int} (hS : St M w0 [] [] [] w0) (h : ref01_Order k u0 u1 = some o) :
    Calls Try.prog 144 #[.agg (A12u64.enc u0).toArray, .agg (A12u64.enc u1).toArray] w0 fun e W' => ∃ v, e = .returned v ∧ (v = .int .i64 (o) ∧ St M w0 [] [] [] W') := by
  unfold ref01_Order at h
  refine calls_start (args := [.agg (A12u64.enc u0).toArray, .agg (A12u64.enc u1).toArray]) Try.func144 rfl rfl (Nat.le_of_ble_eq_true rfl) (fun a hF => ?_)
  refine wp_seq ?_
  refine wp_reg ?_
  refine sq_box hF hS rfl rfl (by decide) (fun b1 a W hF hS => ?_)
  refine sq_box hF hS rfl rfl (by decide) (fun b2 a W hF hS => ?_)
  refine sq_val (v_assign hF rfl) hF (by decide) (fun a hF => ?_)
  refine sq_nil ?_
  refine then_n ?_
  refine wp_seq ?_
  refine wp_seq ?_
  refine wp_reg ?_
  refine sq_val (v_assign hF rfl) hF (by decide) (fun a hF => ?_)
  refine sq_nil ?_
  refine then_n ?_
  obtain ⟨o5, h, hk6⟩ := bindS h
  refine wp_join (fun a W => Lo.brk () = o5 ∧ FH 24 [] a ∧ St M w0 [] [] [] W) (fun a W hJ => ?_) ?_
  ·
   obtain ⟨rfl, hF, hS⟩ := hJ
   have h := hk6
   dsimp only at h
   refine then_n ?_
   refine wp_seq ?_
   refine wp_reg ?_
   refine sq_val (v_assign hF rfl) hF (by decide) (fun a hF => ?_)
   refine sq_nil ?_
   refine then_n ?_
   refine wp_ret ?_
   obtain rfl := Option.some.inj h
   exact ret1 hF rfl (rv_tmp hF rfl) ⟨_, rfl, rfl, hS⟩
  ·
   refine wp_block ?_
   refine wp_loop_fuel (I := fun m a W => ∃ (x4 : Int), FH 24 [(2, .pointer (some (⟨b1, 0, none⟩))), (3, .pointer (some (⟨b2, 0, none⟩))), (5, .int .i64 (x4))] a ∧ St M w0 [⟨b2, A12u64.enc u1, 24⟩, ⟨b1, A12u64.enc u0, 24⟩] [] [] W ∧ (ref01_Order.l0 k u0 u1 m x4) = some o5) ?_ (k := k) ⟨0, (hF.keep ⟨rfl, rfl, rfl, trivial⟩), hS, h⟩
   rintro m7 a W ⟨x4, hF, hS, h⟩
   cases m7 with
   | zero => cases h
   | succ m7 =>
    rw [ref01_Order.l0] at h
    refine wp_seq ?_
    refine wp_seq ?_
    refine wp_reg ?_
    refine sq_val (v_move hF rfl) hF (by decide) (fun a hF => ?_)
    refine sq_val (v_lss hF rfl rfl) hF (by decide) (fun a hF => ?_)
    refine sq_nil ?_
    refine then_n ?_
    refine wp_if hF rfl (fun he8 => ?_) (fun he8 => ?_)
    ·
     replace h := ifT he8 h
     refine wp_skip ?_
     refine then_n ?_
     refine wp_seq ?_
     refine wp_block ?_
     refine wp_seq ?_
     refine wp_seq ?_
     refine wp_quiet rfl (by kernel_rfl) hS ?_
     refine qt_val (fun W hC => (v_move hF rfl)) hF (by decide) (fun a hF => ?_)
     obtain ⟨hb9, h⟩ := ifS h
     refine qt_val (fun W hC => (v_indexAddr hF rfl rfl par24 hb9.1 hb9.2)) hF (by decide) (fun a hF => ?_)
     refine qt_val (fun W hC => (v_load1 hF rfl pa22 (cells_sub (vs := [.int .u64 ((u0.at x4))]) (hC.2.bc (i := 1) rfl) rfl (A12u64.get u0 x4 hb9.1 hb9.2)))) hF (by decide) (fun a hF => ?_)
     refine qt_val (fun W hC => (v_move hF rfl)) hF (by decide) (fun a hF => ?_)
     refine qt_val (fun W hC => (v_indexAddr hF rfl rfl par24 hb9.1 hb9.2)) hF (by decide) (fun a hF => ?_)
     refine qt_val (fun W hC => (v_load1 hF rfl pa22 (cells_sub (vs := [.int .u64 ((u1.at x4))]) (hC.2.bc (i := 0) rfl) rfl (A12u64.get u1 x4 hb9.1 hb9.2)))) hF (by decide) (fun a hF => ?_)
     refine qt_val (fun W hC => (v_lss hF rfl rfl)) hF (by decide) (fun a hF => ?_)
     refine qt_nil ?_
     intro W hC
     have hS := hC.2
     refine then_n ?_
     refine wp_if hF rfl (fun he10 => ?_) (fun he10 => ?_)
     ·
      replace h := ifT he10 h
      refine wp_seq ?_
      refine wp_reg ?_
      refine sq_val (v_assign hF rfl) hF (by decide) (fun a hF => ?_)
      refine sq_nil ?_
      refine then_n ?_
      refine wp_ret ?_
      refine then_r ?_
      refine blk_r ?_
      refine then_r ?_
      refine then_r ?_
      refine blk_r ?_
      refine then_r ?_
      refine then_r ?_
      obtain rfl := Option.some.inj h
      have h := hk6
      dsimp only at h
      obtain rfl := Option.some.inj h
      exact ret1 hF rfl (rv_tmp hF rfl) ⟨_, rfl, rfl, (hS.keep (List.nil_sublist _) (List.Sublist.refl _) trivial)⟩
     ·
      replace h := ifF he10 h
      refine wp_skip ?_
      refine then_n ?_
      refine wp_seq ?_
      refine wp_quiet rfl (by kernel_rfl) hS ?_
      refine qt_val (fun W hC => (v_move hF rfl)) hF (by decide) (fun a hF => ?_)
      refine qt_val (fun W hC => (v_indexAddr hF rfl rfl par24 hb9.1 hb9.2)) hF (by decide) (fun a hF => ?_)
      refine qt_val (fun W hC => (v_load1 hF rfl pa22 (cells_sub (vs := [.int .u64 ((u0.at x4))]) (hC.2.bc (i := 1) rfl) rfl (A12u64.get u0 x4 hb9.1 hb9.2)))) hF (by decide) (fun a hF => ?_)
      refine qt_val (fun W hC => (v_move hF rfl)) hF (by decide) (fun a hF => ?_)
      refine qt_val (fun W hC => (v_indexAddr hF rfl rfl par24 hb9.1 hb9.2)) hF (by decide) (fun a hF => ?_)
      refine qt_val (fun W hC => (v_load1 hF rfl pa22 (cells_sub (vs := [.int .u64 ((u1.at x4))]) (hC.2.bc (i := 0) rfl) rfl (A12u64.get u1 x4 hb9.1 hb9.2)))) hF (by decide) (fun a hF => ?_)
      refine qt_val (fun W hC => (v_gtr hF rfl rfl)) hF (by decide) (fun a hF => ?_)
      refine qt_nil ?_
      intro W hC
      have hS := hC.2
      refine then_n ?_
      refine wp_if hF rfl (fun he11 => ?_) (fun he11 => ?_)
      ·
       replace h := ifT he11 h
       refine wp_seq ?_
       refine wp_reg ?_
       refine sq_val (v_assign hF rfl) hF (by decide) (fun a hF => ?_)
       refine sq_nil ?_
       refine then_n ?_
       refine wp_ret ?_
       refine blk_r ?_
       refine then_r ?_
       refine then_r ?_
       refine blk_r ?_
       refine then_r ?_
       refine then_r ?_
       obtain rfl := Option.some.inj h
       have h := hk6
       dsimp only at h
       obtain rfl := Option.some.inj h
       exact ret1 hF rfl (rv_tmp hF rfl) ⟨_, rfl, rfl, (hS.keep (List.nil_sublist _) (List.Sublist.refl _) trivial)⟩
      ·
       replace h := ifF he11 h
       refine wp_skip ?_
       refine blk_n ?_
       refine then_n ?_
       refine wp_reg ?_
       refine sq_val (v_move hF rfl) hF (by decide) (fun a hF => ?_)
       refine sq_val (v_add hF rfl rfl) hF (by decide) (fun a hF => ?_)
       refine sq_val (v_assign hF rfl) hF (by decide) (fun a hF => ?_)
       refine sq_nil ?_
       exact then_j ⟨m7, Nat.lt_succ_self _, (IntKind.i64.wrap (x4 + 1)), (hF.keep ⟨rfl, rfl, rfl, trivial⟩), hS, h⟩
    ·
     replace h := ifF he8 h
     refine wp_exit ?_
     refine then_x ?_
     refine then_x ?_
     refine blk_hit ?_
     obtain rfl := Option.some.inj h
     exact then_j ⟨rfl, (hF.keep trivial), (hS.keep (List.nil_sublist _) (List.Sublist.refl _) trivial)⟩

theorem ok_ref01_Compare (k : Nat) {M : Nat → Prop} {w0 : World} {u0 : TCube} {u1 : TCube} {o : Int} (hS : St M w0 [] [] [] w0) (h : ref01_Compare k u0 u1 = some o) :
    Calls Try.prog 102 #[.agg (TCube.enc u0).toArray, .agg (TCube.enc u1).toArray] w0 fun e W' => ∃ v, e = .returned v ∧ (v = .int .i64 (o) ∧ St M w0 [] [] [] W') := by
  unfold ref01_Compare at h
  refine calls_start (args := [.agg (TCube.enc u0).toArray, .agg (TCube.enc u1).toArray]) Try.func102 rfl rfl (Nat.le_of_ble_eq_true rfl) (fun a hF => ?_)
  refine wp_seq ?_
  refine wp_reg ?_
  refine sq_box hF hS rfl rfl (by decide) (fun b1 a W hF hS => ?_)
  refine sq_box hF hS rfl rfl (by decide) (fun b2 a W hF hS => ?_)
  refine sq_val (v_assign hF rfl) hF (by decide) (fun a hF => ?_)
  refine sq_nil ?_
  refine then_n ?_
  refine wp_seq ?_
  refine wp_reg ?_
  refine sq_val (v_fieldAddr hF rfl pf26_1) hF (by decide) (fun a hF => ?_)
  refine sq_val (v_load (cs := A12u64.enc u0.Care) hF rfl pa24 ps24 (cells_sub (vs := A12u64.enc u0.Care) (hS.bc (i := 1) rfl) rfl rfl)) hF (by decide) (fun a hF => ?_)
  refine sq_val (v_fieldAddr hF rfl pf26_1) hF (by decide) (fun a hF => ?_)
  refine sq_val (v_load (cs := A12u64.enc u1.Care) hF rfl pa24 ps24 (cells_sub (vs := A12u64.enc u1.Care) (hS.bc (i := 0) rfl) rfl rfl)) hF (by decide) (fun a hF => ?_)
  obtain ⟨x3, hx4, h⟩ := bindS h
  refine sq_call hF pc144 rfl (by decide) (ok_ref01_Order k (hS.enter trivial) hx4) (fun v W hR a hF => ?_)
  obtain ⟨rfl, hT5⟩ := hR
  have hS := hS.grow hT5.below
  refine sq_val (v_assign hF rfl) hF (by decide) (fun a hF => ?_)
  refine sq_nil ?_
  refine then_n ?_
  refine wp_seq ?_
  refine wp_seq ?_
  refine wp_reg ?_
  refine sq_val (v_move hF rfl) hF (by decide) (fun a hF => ?_)
  refine sq_val (v_neq hF rfl rfl) hF (by decide) (fun a hF => ?_)
  refine sq_nil ?_
  refine then_n ?_
  refine wp_if hF rfl (fun he6 => ?_) (fun he6 => ?_)
  ·
   replace h := ifT he6 h
   refine wp_seq ?_
   refine wp_reg ?_
   refine sq_val (v_move hF rfl) hF (by decide) (fun a hF => ?_)
   refine sq_val (v_assign hF rfl) hF (by decide) (fun a hF => ?_)
   refine sq_nil ?_
   refine then_n ?_
   refine wp_ret ?_
   refine then_r ?_
   obtain rfl := Option.some.inj h
   exact ret1 hF rfl (rv_tmp hF rfl) ⟨_, rfl, rfl, (hS.keep (List.nil_sublist _) (List.Sublist.refl _) trivial)⟩
  ·
   replace h := ifF he6 h
   refine wp_skip ?_
   refine then_n ?_
   refine wp_seq ?_
   refine wp_reg ?_
   refine sq_val (v_fieldAddr hF rfl pf26_0) hF (by decide) (fun a hF => ?_)
   refine sq_val (v_load (cs := A12u64.enc u0.Value) hF rfl pa24 ps24 (cells_sub (vs := A12u64.enc u0.Value) (hS.bc (i := 1) rfl) rfl rfl)) hF (by decide) (fun a hF => ?_)
   refine sq_val (v_fieldAddr hF rfl pf26_0) hF (by decide) (fun a hF => ?_)
   refine sq_val (v_load (cs := A12u64.enc u1.Value) hF rfl pa24 ps24 (cells_sub (vs := A12u64.enc u1.Value) (hS.bc (i := 0) rfl) rfl rfl)) hF (by decide) (fun a hF => ?_)
   obtain ⟨x7, hx8, h⟩ := bindS h
   refine sq_call hF pc144 rfl (by decide) (ok_ref01_Order k (hS.enter trivial) hx8) (fun v W hR a hF => ?_)
   obtain ⟨rfl, hT9⟩ := hR
   have hS := hS.grow hT9.below
   refine sq_val (v_assign hF rfl) hF (by decide) (fun a hF => ?_)
   refine sq_nil ?_
   refine then_n ?_
   refine wp_ret ?_
   obtain rfl := Option.some.inj h
   exact ret1 hF rfl (rv_tmp hF rfl) ⟨_, rfl, rfl, (hS.keep (List.nil_sublist _) (List.Sublist.refl _) trivial)⟩

theorem ok_ref04_Before (k : Nat) {M : Nat → Prop} {w0 : World} {u0 : TRule} {A0_0 : Option Addr} {c0_0 : Nat} {u1 : TRule} {A1_0 : Option Addr} {c1_0 : Nat} {o : Bool} (hS : St M w0 [] [] [fSl k_TAct A0_0 c0_0 u0.Acts, fSl k_TAct A1_0 c1_0 u1.Acts] w0) (h : ref04_Before k u0 u1 = some o) :
    Calls Try.prog 82 #[.agg (TRule.enc u0 A0_0 c0_0).toArray, .agg (TRule.enc u1 A1_0 c1_0).toArray] w0 fun e W' => ∃ v, e = .returned v ∧ (v = .bool (o) ∧ St M w0 [] [] [] W') := by
  unfold ref04_Before at h
  refine calls_start (args := [.agg (TRule.enc u0 A0_0 c0_0).toArray, .agg (TRule.enc u1 A1_0 c1_0).toArray]) Try.func82 rfl rfl (Nat.le_of_ble_eq_true rfl) (fun a hF => ?_)
  refine wp_seq ?_
  refine wp_reg ?_
  refine sq_box hF hS rfl rfl (by decide) (fun b1 a W hF hS => ?_)
  refine sq_box hF hS rfl rfl (by decide) (fun b2 a W hF hS => ?_)
  refine sq_val (v_assign hF rfl) hF (by decide) (fun a hF => ?_)
  refine sq_nil ?_
  refine then_n ?_
  refine wp_seq ?_
  refine wp_seq ?_
  refine wp_reg ?_
  refine sq_val (v_fieldAddr hF rfl pf65_1) hF (by decide) (fun a hF => ?_)
  refine sq_val (v_load1 hF rfl pa3 (cells_sub (vs := [.int .i64 (u0.Prio)]) (hS.bc (i := 1) rfl) rfl rfl)) hF (by decide) (fun a hF => ?_)
  refine sq_val (v_fieldAddr hF rfl pf65_1) hF (by decide) (fun a hF => ?_)
  refine sq_val (v_load1 hF rfl pa3 (cells_sub (vs := [.int .i64 (u1.Prio)]) (hS.bc (i := 0) rfl) rfl rfl)) hF (by decide) (fun a hF => ?_)
  refine sq_val (v_neq hF rfl rfl) hF (by decide) (fun a hF => ?_)
  refine sq_nil ?_
  refine then_n ?_
  refine wp_if hF rfl (fun he3 => ?_) (fun he3 => ?_)
  ·
   replace h := ifT he3 h
   refine wp_seq ?_
   refine wp_reg ?_
   refine sq_val (v_fieldAddr hF rfl pf65_1) hF (by decide) (fun a hF => ?_)
   refine sq_val (v_load1 hF rfl pa3 (cells_sub (vs := [.int .i64 (u0.Prio)]) (hS.bc (i := 1) rfl) rfl rfl)) hF (by decide) (fun a hF => ?_)
   refine sq_val (v_fieldAddr hF rfl pf65_1) hF (by decide) (fun a hF => ?_)
   refine sq_val (v_load1 hF rfl pa3 (cells_sub (vs := [.int .i64 (u1.Prio)]) (hS.bc (i := 0) rfl) rfl rfl)) hF (by decide) (fun a hF => ?_)
   refine sq_val (v_gtr hF rfl rfl) hF (by decide) (fun a hF => ?_)
   refine sq_val (v_assign hF rfl) hF (by decide) (fun a hF => ?_)
   refine sq_nil ?_
   refine then_n ?_
   refine wp_ret ?_
   refine then_r ?_
   obtain rfl := Option.some.inj h
   exact ret1 hF rfl (rv_tmp hF rfl) ⟨_, rfl, rfl, (hS.keep (List.nil_sublist _) (List.Sublist.refl _) trivial)⟩
  ·
   replace h := ifF he3 h
   refine wp_skip ?_
   refine then_n ?_
   refine wp_seq ?_
   refine wp_reg ?_
   refine sq_val (v_fieldAddr hF rfl pf65_0) hF (by decide) (fun a hF => ?_)
   refine sq_val (v_load (cs := TCube.enc u0.Match) hF rfl pa26 ps26 (cells_sub (vs := TCube.enc u0.Match) (hS.bc (i := 1) rfl) rfl rfl)) hF (by decide) (fun a hF => ?_)
   refine sq_val (v_fieldAddr hF rfl pf65_0) hF (by decide) (fun a hF => ?_)
   refine sq_val (v_load (cs := TCube.enc u1.Match) hF rfl pa26 ps26 (cells_sub (vs := TCube.enc u1.Match) (hS.bc (i := 0) rfl) rfl rfl)) hF (by decide) (fun a hF => ?_)
   obtain ⟨x4, hx5, h⟩ := bindS h
   refine sq_call hF pc102 rfl (by decide) (ok_ref01_Compare k (hS.enter trivial) hx5) (fun v W hR a hF => ?_)
   obtain ⟨rfl, hT6⟩ := hR
   have hS := hS.grow hT6.below
   refine sq_val (v_lss hF rfl rfl) hF (by decide) (fun a hF => ?_)
   refine sq_val (v_assign hF rfl) hF (by decide) (fun a hF => ?_)
   refine sq_nil ?_
   refine then_n ?_
   refine wp_ret ?_
   obtain rfl := Option.some.inj h
   exact ret1 hF rfl (rv_tmp hF rfl) ⟨_, rfl, rfl, (hS.keep (List.nil_sublist _) (List.Sublist.refl _) trivial)⟩

theorem ok_ref04_Table (k : Nat) {M : Nat → Prop} {w0 : World} {u0 : List TRule} {A0_0 : Option Addr} {c0_0 : Nat} {o : Bool} (hS : St M w0 [] [] [fSl k_TRule A0_0 c0_0 u0] w0) (h : ref04_Table k u0 = some o) :
    Calls Try.prog 29 #[.slice A0_0 ((u0).length) c0_0] w0 fun e W' => ∃ v, e = .returned v ∧ (v = .bool (o) ∧ St M w0 [] [] [] W') := by
  unfold ref04_Table at h
  refine calls_start (args := [.slice A0_0 ((u0).length) c0_0]) Try.func29 rfl rfl (Nat.le_of_ble_eq_true rfl) (fun a hF => ?_)
  refine wp_seq ?_
  refine wp_reg ?_
  refine sq_val (v_assign hF rfl) hF (by decide) (fun a hF => ?_)
  refine sq_nil ?_
  refine then_n ?_
  refine wp_seq ?_
  refine wp_seq ?_
  refine wp_reg ?_
  refine sq_val (v_assign hF rfl) hF (by decide) (fun a hF => ?_)
  refine sq_nil ?_
  refine then_n ?_
  obtain ⟨o3, h, hk4⟩ := bindS h
  refine wp_join (fun a W => Lo.brk () = o3 ∧ FH 33 [] a ∧ St M w0 [] [] [] W) (fun a W hJ => ?_) ?_
  ·
   obtain ⟨rfl, hF, hS⟩ := hJ
   have h := hk4
   dsimp only at h
   refine then_n ?_
   refine wp_seq ?_
   refine wp_reg ?_
   refine sq_val (v_assign hF rfl) hF (by decide) (fun a hF => ?_)
   refine sq_nil ?_
   refine then_n ?_
   refine wp_ret ?_
   obtain rfl := Option.some.inj h
   exact ret1 hF rfl (rv_tmp hF rfl) ⟨_, rfl, rfl, hS⟩
  ·
   refine wp_block ?_
   refine wp_loop_fuel (I := fun m a W => ∃ (x2 : Int), FH 33 [(0, .slice A0_0 ((u0).length) c0_0), (3, .int .i64 (x2))] a ∧ St M w0 [] [] [fSl k_TRule A0_0 c0_0 u0] W ∧ (ref04_Table.l0 k u0 m x2) = some o3) ?_ (k := k) ⟨0, (hF.keep ⟨rfl, rfl, trivial⟩), hS, h⟩
   rintro m5 a W ⟨x2, hF, hS, h⟩
   cases m5 with
   | zero => cases h
   | succ m5 =>
    rw [ref04_Table.l0] at h
    refine wp_seq ?_
    refine wp_seq ?_
    refine wp_reg ?_
    refine sq_val (v_move hF rfl) hF (by decide) (fun a hF => ?_)
    refine sq_val (v_move hF rfl) hF (by decide) (fun a hF => ?_)
    refine sq_val (v_len hF rfl pu37) hF (by decide) (fun a hF => ?_)
    refine sq_val (v_lss hF rfl rfl) hF (by decide) (fun a hF => ?_)
    refine sq_nil ?_
    refine then_n ?_
    refine wp_if hF rfl (fun he6 => ?_) (fun he6 => ?_)
    ·
     replace h := ifT he6 h
     refine wp_skip ?_
     refine then_n ?_
     refine wp_seq ?_
     refine wp_block ?_
     refine wp_seq ?_
     refine wp_quiet rfl (by kernel_rfl) hS ?_
     refine qt_val (fun W hC => (v_move hF rfl)) hF (by decide) (fun a hF => ?_)
     refine qt_val (fun W hC => (v_move hF rfl)) hF (by decide) (fun a hF => ?_)
     obtain ⟨x7, hx8, h⟩ := bindS h
     obtain ⟨p9, cs10, hA11, hat12⟩ := SlR.at (hS.fc (i := 0) rfl) hx8
     obtain ⟨A13, c14, rfl, hs15⟩ := hat12.2.2.2
     refine qt_val (fun W hC => (v_idx hF rfl hA11 rfl psl37 hx8)) hF (by decide) (fun a hF => ?_)
     refine qt_val (fun W hC => (v_load (cs := TRule.enc x7 A13 c14) hF rfl pa65 ps65 (hat12.2.2.1.grow hC.1))) hF (by decide) (fun a hF => ?_)
     obtain ⟨x16, hx17, h⟩ := bindS h
     refine qt_call hF pc81 rfl (by decide) (fun W hC => q_of hC (ok_ref04_Rule k ((hC.2.addFact (f := fSl k_TAct A13 c14 x7.Acts) ((fSl k_TAct A13 c14 x7.Acts).st hs15 (Stp.below hC.1))).enter ⟨⟨0, rfl⟩, trivial⟩) hx17)) (fun a hF => ?_)
     refine qt_val (fun W hC => (v_not hF rfl)) hF (by decide) (fun a hF => ?_)
     refine qt_val (fun W hC => (v_move hF rfl)) hF (by decide) (fun a hF => ?_)
     obtain ⟨x19, h, hk21⟩ := bindS h
     refine qt_cut 16 (fun a => FH 33 [(0, .slice A0_0 ((u0).length) c0_0), (3, .int .i64 (x2)), (32, .bool x19)] a) (fun a hF => ?_) ?_
     ·
      have h := hk21
      refine qt_nil ?_
      intro W hC
      have hS := hC.2
      refine then_n ?_
      refine wp_if hF rfl (fun he44 => ?_) (fun he44 => ?_)
      ·
       replace h := ifT he44 h
       refine wp_seq ?_
       refine wp_reg ?_
       refine sq_val (v_assign hF rfl) hF (by decide) (fun a hF => ?_)
       refine sq_nil ?_
       refine then_n ?_
       refine wp_ret ?_
       refine blk_r ?_
       refine then_r ?_
       refine then_r ?_
       refine blk_r ?_
       refine then_r ?_
       refine then_r ?_
       obtain rfl := Option.some.inj h
       have h := hk4
       dsimp only at h
       obtain rfl := Option.some.inj h
       exact ret1 hF rfl (rv_tmp hF rfl) ⟨_, rfl, rfl, (hS.keep (List.Sublist.refl _) (List.Sublist.refl _) trivial)⟩
      ·
       replace h := ifF he44 h
       refine wp_skip ?_
       refine blk_n ?_
       refine then_n ?_
       refine wp_reg ?_
       refine sq_val (v_move hF rfl) hF (by decide) (fun a hF => ?_)
       refine sq_val (v_add hF rfl rfl) hF (by decide) (fun a hF => ?_)
       refine sq_val (v_assign hF rfl) hF (by decide) (fun a hF => ?_)
       refine sq_nil ?_
       exact then_j ⟨m5, Nat.lt_succ_self _, (IntKind.i64.wrap (x2 + 1)), (hF.keep ⟨rfl, rfl, trivial⟩), hS, h⟩
     ·
      by_cases he18 : (!x16) = true
      ·
       replace h := ifT he18 h
       refine qt_no hF rfl rfl he18 (by decide) (fun a hF => ?_)
       refine qt_no hF rfl rfl he18 (by decide) (fun a hF => ?_)
       refine qt_no hF rfl rfl he18 (by decide) (fun a hF => ?_)
       refine qt_no2 hF rfl rfl (by decide) (fun a hF => ?_)
       refine qt_no2 hF rfl rfl (by decide) (fun a hF => ?_)
       refine qt_no2 hF rfl rfl (by decide) (fun a hF => ?_)
       refine qt_no2 hF rfl rfl (by decide) (fun a hF => ?_)
       refine qt_no2 hF rfl rfl (by decide) (fun a hF => ?_)
       refine qt_no2 hF rfl rfl (by decide) (fun a hF => ?_)
       refine qt_no2 hF rfl rfl (by decide) (fun a hF => ?_)
       refine qt_no2 hF rfl rfl (by decide) (fun a hF => ?_)
       refine qt_no2 hF rfl rfl (by decide) (fun a hF => ?_)
       refine qt_no2 hF rfl rfl (by decide) (fun a hF => ?_)
       refine qt_no2 hF rfl rfl (by decide) (fun a hF => ?_)
       refine qt_no hF rfl rfl he18 (by decide) (fun a hF => ?_)
       refine qt_val (fun W hC => (v_pick_t hF rfl he18 rfl)) hF (by decide) (fun a hF => ?_)
       obtain rfl := Option.some.inj h
       exact qt_nil (hF.keep ⟨rfl, rfl, rfl, trivial⟩)
      ·
       have he18 : (!x16) = false := nB he18
       replace h := ifF he18 h
       refine qt_yes hF rfl rfl he18 ?_
       refine qt_val (fun W hC => (v_move hF rfl)) hF (by decide) (fun a hF => ?_)
       refine qt_yes hF rfl rfl he18 ?_
       refine qt_val (fun W hC => (v_gtr hF rfl rfl)) hF (by decide) (fun a hF => ?_)
       refine qt_yes hF rfl rfl he18 ?_
       refine qt_val (fun W hC => (v_move hF rfl)) hF (by decide) (fun a hF => ?_)
       obtain ⟨x23, h, hk25⟩ := bindS h
       refine qt_cut 12 (fun a => FH 33 [(0, .slice A0_0 ((u0).length) c0_0), (3, .int .i64 (x2)), (16, .bool ((!x16))), (17, .int .i64 (x2)), (18, .bool ((decide (0 < x2)))), (19, .bool ((decide (0 < x2)))), (31, .bool x23)] a) (fun a hF => ?_) ?_
       ·
        have h := hk25
        refine qt_val (fun W hC => (v_pick_f hF rfl he18 rfl)) hF (by decide) (fun a hF => ?_)
        obtain rfl := Option.some.inj h
        exact qt_nil (hF.keep ⟨rfl, rfl, rfl, trivial⟩)
       ·
        by_cases he22 : (decide (0 < x2)) = true
        ·
         replace h := ifT he22 h
         refine qt_yes hF rfl rfl he22 ?_
         refine qt_val (fun W hC => (v_move hF rfl)) hF (by decide) (fun a hF => ?_)
         refine qt_yes hF rfl rfl he22 ?_
         refine qt_val (fun W hC => (v_move hF rfl)) hF (by decide) (fun a hF => ?_)
         refine qt_yes hF rfl rfl he22 ?_
         refine qt_val (fun W hC => (v_sub hF rfl rfl)) hF (by decide) (fun a hF => ?_)
         refine qt_yes hF rfl rfl he22 ?_
         obtain ⟨x26, hx27, h⟩ := bindS h
         obtain ⟨p28, cs29, hA30, hat31⟩ := SlR.at (hS.fc (i := 0) rfl) hx27
         obtain ⟨A32, c33, rfl, hs34⟩ := hat31.2.2.2
         refine qt_val (fun W hC => (v_idx hF rfl hA30 rfl psl37 hx27)) hF (by decide) (fun a hF => ?_)
         refine qt_yes hF rfl rfl he22 ?_
         refine qt_val (fun W hC => (v_load (cs := TRule.enc x26 A32 c33) hF rfl pa65 ps65 (hat31.2.2.1.grow hC.1))) hF (by decide) (fun a hF => ?_)
         refine qt_yes hF rfl rfl he22 ?_
         refine qt_val (fun W hC => (v_move hF rfl)) hF (by decide) (fun a hF => ?_)
         refine qt_yes hF rfl rfl he22 ?_
         refine qt_val (fun W hC => (v_move hF rfl)) hF (by decide) (fun a hF => ?_)
         refine qt_yes hF rfl rfl he22 ?_
         obtain ⟨p35, cs36, hA37, hat38⟩ := SlR.at (hS.fc (i := 0) rfl) hx8
         obtain ⟨A39, c40, rfl, hs41⟩ := hat38.2.2.2
         refine qt_val (fun W hC => (v_idx hF rfl hA37 rfl psl37 hx8)) hF (by decide) (fun a hF => ?_)
         refine qt_yes hF rfl rfl he22 ?_
         refine qt_val (fun W hC => (v_load (cs := TRule.enc x7 A39 c40) hF rfl pa65 ps65 (hat38.2.2.1.grow hC.1))) hF (by decide) (fun a hF => ?_)
         refine qt_yes hF rfl rfl he22 ?_
         obtain ⟨x42, hx43, h⟩ := bindS h
         refine qt_call hF pc82 rfl (by decide) (fun W hC => q_of hC (ok_ref04_Before k (((hC.2.addFact (f := fSl k_TAct A32 c33 x26.Acts) ((fSl k_TAct A32 c33 x26.Acts).st hs34 (Stp.below hC.1))).addFact (f := fSl k_TAct A39 c40 x7.Acts) ((fSl k_TAct A39 c40 x7.Acts).st hs41 (Stp.below hC.1))).enter ⟨⟨1, rfl⟩, ⟨0, rfl⟩, trivial⟩) hx43)) (fun a hF => ?_)
         refine qt_yes hF rfl rfl he22 ?_
         refine qt_val (fun W hC => (v_not hF rfl)) hF (by decide) (fun a hF => ?_)
         refine qt_yes hF rfl rfl he18 ?_
         refine qt_val (fun W hC => (v_pick_t hF rfl he22 rfl)) hF (by decide) (fun a hF => ?_)
         obtain rfl := Option.some.inj h
         exact qt_nil (hF.keep ⟨rfl, rfl, rfl, rfl, rfl, rfl, rfl, trivial⟩)
        ·
         have he22 : (decide (0 < x2)) = false := nB he22
         replace h := ifF he22 h
         refine qt_no hF rfl rfl he22 (by decide) (fun a hF => ?_)
         refine qt_no hF rfl rfl he22 (by decide) (fun a hF => ?_)
         refine qt_no hF rfl rfl he22 (by decide) (fun a hF => ?_)
         refine qt_no hF rfl rfl he22 (by decide) (fun a hF => ?_)
         refine qt_no hF rfl rfl he22 (by decide) (fun a hF => ?_)
         refine qt_no hF rfl rfl he22 (by decide) (fun a hF => ?_)
         refine qt_no hF rfl rfl he22 (by decide) (fun a hF => ?_)
         refine qt_no hF rfl rfl he22 (by decide) (fun a hF => ?_)
         refine qt_no hF rfl rfl he22 (by decide) (fun a hF => ?_)
         refine qt_no hF rfl rfl he22 (by decide) (fun a hF => ?_)
         refine qt_no hF rfl rfl he22 (by decide) (fun a hF => ?_)
         refine qt_yes hF rfl rfl he18 ?_
         refine qt_val (fun W hC => (v_pick_f hF rfl he22 rfl)) hF (by decide) (fun a hF => ?_)
         obtain rfl := Option.some.inj h
         exact qt_nil (hF.keep ⟨rfl, rfl, rfl, rfl, rfl, rfl, rfl, trivial⟩)
    ·
     replace h := ifF he6 h
     refine wp_exit ?_
     refine then_x ?_
     refine then_x ?_
     refine blk_hit ?_
     obtain rfl := Option.some.inj h
     exact then_j ⟨rfl, (hF.keep trivial), (hS.keep (List.Sublist.refl _) (List.Sublist.refl _) trivial)⟩
end Go.Proofs.Ytangebngeeamoaa
