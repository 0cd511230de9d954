/- What calls of the Go functions come to. -/
import Derived.Test.YtangebngeeamoaaW9
set_option linter.unusedVariables false
set_option linter.unusedSimpArgs false
set_option maxRecDepth 100000
set_option maxHeartbeats 4000000
namespace Go.Proofs.Ytangebngeeamoaa
open Go.RowKit Go.Pod
theorem ok_ref04_Mod (k : Nat) {M : Nat → Prop} {w0 : World} {u0 : TMod} {A0_0 : Option Addr} {c0_0 : Nat} {o : Bool} (hS : St M w0 [] [] [fSl k_TAct A0_0 c0_0 u0.Acts] w0) (h : ref04_Mod k u0 = some o) :
    Calls Try.prog 28 #[.agg (TMod.enc u0 A0_0 c0_0).toArray] w0 fun e W' => ∃ v, e = .returned v ∧ (v = .bool (o) ∧ St M w0 [] [] [] W') := by
  unfold ref04_Mod at h
  refine calls_start (args := [.agg (TMod.enc u0 A0_0 c0_0).toArray]) Try.func28 rfl rfl (Nat.le_of_ble_eq_true rfl) (fun a hF => ?_)
  refine wp_seq ?_
  refine wp_reg ?_
  refine sq_box hF hS rfl rfl (by decide) (fun b1 a W hF hS => ?_)
  refine sq_val (v_assign hF rfl) hF (by decide) (fun a hF => ?_)
  refine sq_nil ?_
  refine then_n ?_
  refine wp_seq ?_
  refine wp_seq ?_
  refine wp_reg ?_
  refine sq_val (v_fieldAddr hF rfl pf40_0) hF (by decide) (fun a hF => ?_)
  refine sq_val (v_load1 hF rfl pa3 (cells_sub (vs := [.int .i64 (u0.Kind)]) (hS.bc (i := 0) rfl) rfl rfl)) hF (by decide) (fun a hF => ?_)
  refine sq_val (v_lss hF rfl rfl) hF (by decide) (fun a hF => ?_)
  refine sq_val (v_move hF rfl) hF (by decide) (fun a hF => ?_)
  refine sq_cut 4 (fun a W => FH 91 [(1, .pointer (some (⟨b1, 0, none⟩))), (10, .bool ((decide (u0.Kind < 1)) || (decide (5 < u0.Kind))))] a ∧ St M w0 [⟨b1, TMod.enc u0 A0_0 c0_0, 40⟩] [] [fSl k_TAct A0_0 c0_0 u0.Acts] W) (fun a W hJ => ?_) ?_
  ·
   obtain ⟨hF, hS⟩ := hJ
   refine sq_val (v_move hF rfl) hF (by decide) (fun a hF => ?_)
   obtain ⟨x4, h, hk6⟩ := bindS h
   refine sq_cut 5 (fun a W => FH 91 [(1, .pointer (some (⟨b1, 0, none⟩))), (16, .bool x4)] a ∧ St M w0 [⟨b1, TMod.enc u0 A0_0 c0_0, 40⟩] [] [fSl k_TAct A0_0 c0_0 u0.Acts] W) (fun a W hJ => ?_) ?_
   ·
    have h := hk6
    obtain ⟨hF, hS⟩ := hJ
    refine sq_val (v_move hF rfl) hF (by decide) (fun a hF => ?_)
    obtain ⟨x11, h, hk13⟩ := bindS h
    refine sq_cut 5 (fun a W => FH 91 [(1, .pointer (some (⟨b1, 0, none⟩))), (22, .bool x11)] a ∧ St M w0 [⟨b1, TMod.enc u0 A0_0 c0_0, 40⟩] [] [fSl k_TAct A0_0 c0_0 u0.Acts] W) (fun a W hJ => ?_) ?_
    ·
     have h := hk13
     obtain ⟨hF, hS⟩ := hJ
     refine sq_val (v_move hF rfl) hF (by decide) (fun a hF => ?_)
     obtain ⟨x18, h, hk20⟩ := bindS h
     refine sq_cut 5 (fun a W => FH 91 [(1, .pointer (some (⟨b1, 0, none⟩))), (28, .bool x18)] a ∧ St M w0 [⟨b1, TMod.enc u0 A0_0 c0_0, 40⟩] [] [fSl k_TAct A0_0 c0_0 u0.Acts] W) (fun a W hJ => ?_) ?_
     ·
      have h := hk20
      obtain ⟨hF, hS⟩ := hJ
      refine sq_val (v_move hF rfl) hF (by decide) (fun a hF => ?_)
      obtain ⟨x25, h, hk27⟩ := bindS h
      refine sq_cut 5 (fun a W => FH 91 [(1, .pointer (some (⟨b1, 0, none⟩))), (34, .bool x25)] a ∧ St M w0 [⟨b1, TMod.enc u0 A0_0 c0_0, 40⟩] [] [fSl k_TAct A0_0 c0_0 u0.Acts] W) (fun a W hJ => ?_) ?_
      ·
       have h := hk27
       obtain ⟨hF, hS⟩ := hJ
       refine sq_val (v_move hF rfl) hF (by decide) (fun a hF => ?_)
       obtain ⟨x32, h, hk34⟩ := bindS h
       refine sq_cut 5 (fun a W => FH 91 [(1, .pointer (some (⟨b1, 0, none⟩))), (40, .bool x32)] a ∧ St M w0 [⟨b1, TMod.enc u0 A0_0 c0_0, 40⟩] [] [fSl k_TAct A0_0 c0_0 u0.Acts] W) (fun a W hJ => ?_) ?_
       ·
        have h := hk34
        obtain ⟨hF, hS⟩ := hJ
        refine sq_val (v_move hF rfl) hF (by decide) (fun a hF => ?_)
        obtain ⟨x39, h, hk41⟩ := bindS h
        refine sq_cut 5 (fun a W => FH 91 [(1, .pointer (some (⟨b1, 0, none⟩))), (46, .bool x39)] a ∧ St M w0 [⟨b1, TMod.enc u0 A0_0 c0_0, 40⟩] [] [fSl k_TAct A0_0 c0_0 u0.Acts] W) (fun a W hJ => ?_) ?_
        ·
         have h := hk41
         obtain ⟨hF, hS⟩ := hJ
         refine sq_nil ?_
         refine then_n ?_
         refine wp_if hF rfl (fun he45 => ?_) (fun he45 => ?_)
         ·
          replace h := ifT he45 h
          refine wp_seq ?_
          refine wp_reg ?_
          refine sq_val (v_assign hF rfl) hF (by decide) (fun a hF => ?_)
          refine sq_nil ?_
          refine then_n ?_
          refine wp_ret ?_
          refine then_r ?_
          obtain rfl := Option.some.inj h
          exact ret1 hF rfl (rv_tmp hF rfl) ⟨_, rfl, rfl, (hS.keep (List.nil_sublist _) (List.Sublist.refl _) trivial)⟩
         ·
          replace h := ifF he45 h
          refine wp_skip ?_
          refine then_n ?_
          refine wp_seq ?_
          refine wp_seq ?_
          refine wp_reg ?_
          refine sq_val (v_fieldAddr hF rfl pf40_0) hF (by decide) (fun a hF => ?_)
          refine sq_val (v_load1 hF rfl pa3 (cells_sub (vs := [.int .i64 (u0.Kind)]) (hS.bc (i := 0) rfl) rfl rfl)) hF (by decide) (fun a hF => ?_)
          refine sq_val (v_neq hF rfl rfl) hF (by decide) (fun a hF => ?_)
          refine sq_val (v_move hF rfl) hF (by decide) (fun a hF => ?_)
          refine sq_cut 13 (fun a W => FH 91 [(1, .pointer (some (⟨b1, 0, none⟩))), (63, .bool ((u0.Kind != 1) && (((u0.Idle != 0) || (u0.Hard != 0)) || u0.Check)))] a ∧ St M w0 [⟨b1, TMod.enc u0 A0_0 c0_0, 40⟩] [] [fSl k_TAct A0_0 c0_0 u0.Acts] W) (fun a W hJ => ?_) ?_
          ·
           obtain ⟨hF, hS⟩ := hJ
           refine sq_nil ?_
           refine then_n ?_
           refine wp_if hF rfl (fun he49 => ?_) (fun he49 => ?_)
           ·
            replace h := ifT he49 h
            refine wp_seq ?_
            refine wp_reg ?_
            refine sq_val (v_assign hF rfl) hF (by decide) (fun a hF => ?_)
            refine sq_nil ?_
            refine then_n ?_
            refine wp_ret ?_
            refine then_r ?_
            obtain rfl := Option.some.inj h
            exact ret1 hF rfl (rv_tmp hF rfl) ⟨_, rfl, rfl, (hS.keep (List.nil_sublist _) (List.Sublist.refl _) trivial)⟩
           ·
            replace h := ifF he49 h
            refine wp_skip ?_
            refine then_n ?_
            refine wp_seq ?_
            refine wp_seq ?_
            refine wp_reg ?_
            refine sq_val (v_fieldAddr hF rfl pf40_0) hF (by decide) (fun a hF => ?_)
            refine sq_val (v_load1 hF rfl pa3 (cells_sub (vs := [.int .i64 (u0.Kind)]) (hS.bc (i := 0) rfl) rfl rfl)) hF (by decide) (fun a hF => ?_)
            refine sq_val (v_eql hF rfl rfl) hF (by decide) (fun a hF => ?_)
            refine sq_val (v_move hF rfl) hF (by decide) (fun a hF => ?_)
            refine sq_cut 4 (fun a W => FH 91 [(1, .pointer (some (⟨b1, 0, none⟩))), (71, .bool ((u0.Kind == 2) || (u0.Kind == 3)))] a ∧ St M w0 [⟨b1, TMod.enc u0 A0_0 c0_0, 40⟩] [] [fSl k_TAct A0_0 c0_0 u0.Acts] W) (fun a W hJ => ?_) ?_
            ·
             obtain ⟨hF, hS⟩ := hJ
             refine sq_val (v_move hF rfl) hF (by decide) (fun a hF => ?_)
             refine sq_cut 4 (fun a W => FH 91 [(1, .pointer (some (⟨b1, 0, none⟩))), (76, .bool (((u0.Kind == 2) || (u0.Kind == 3)) && (u0.Prio != 0)))] a ∧ St M w0 [⟨b1, TMod.enc u0 A0_0 c0_0, 40⟩] [] [fSl k_TAct A0_0 c0_0 u0.Acts] W) (fun a W hJ => ?_) ?_
             ·
              obtain ⟨hF, hS⟩ := hJ
              refine sq_nil ?_
              refine then_n ?_
              refine wp_if hF rfl (fun he52 => ?_) (fun he52 => ?_)
              ·
               replace h := ifT he52 h
               refine wp_seq ?_
               refine wp_reg ?_
               refine sq_val (v_assign hF rfl) hF (by decide) (fun a hF => ?_)
               refine sq_nil ?_
               refine then_n ?_
               refine wp_ret ?_
               refine then_r ?_
               obtain rfl := Option.some.inj h
               exact ret1 hF rfl (rv_tmp hF rfl) ⟨_, rfl, rfl, (hS.keep (List.nil_sublist _) (List.Sublist.refl _) trivial)⟩
              ·
               replace h := ifF he52 h
               refine wp_skip ?_
               refine then_n ?_
               refine wp_seq ?_
               refine wp_reg ?_
               refine sq_val (v_fieldAddr hF rfl pf40_0) hF (by decide) (fun a hF => ?_)
               refine sq_val (v_load1 hF rfl pa3 (cells_sub (vs := [.int .i64 (u0.Kind)]) (hS.bc (i := 0) rfl) rfl rfl)) hF (by decide) (fun a hF => ?_)
               refine sq_val (v_neq hF rfl rfl) hF (by decide) (fun a hF => ?_)
               refine sq_val (v_move hF rfl) hF (by decide) (fun a hF => ?_)
               refine sq_cut 4 (fun a W => FH 91 [(1, .pointer (some (⟨b1, 0, none⟩))), (84, .bool ((u0.Kind != 3) && (u0.Kind != 5)))] a ∧ St M w0 [⟨b1, TMod.enc u0 A0_0 c0_0, 40⟩] [] [fSl k_TAct A0_0 c0_0 u0.Acts] W) (fun a W hJ => ?_) ?_
               ·
                obtain ⟨hF, hS⟩ := hJ
                refine sq_val (v_move hF rfl) hF (by decide) (fun a hF => ?_)
                refine sq_cut 5 (fun a W => FH 91 [(90, .bool (((u0.Kind != 3) && (u0.Kind != 5)) || ((u0.Acts.length : Int) == 0)))] a ∧ St M w0 [⟨b1, TMod.enc u0 A0_0 c0_0, 40⟩] [] [fSl k_TAct A0_0 c0_0 u0.Acts] W) (fun a W hJ => ?_) ?_
                ·
                 obtain ⟨hF, hS⟩ := hJ
                 refine sq_val (v_assign hF rfl) hF (by decide) (fun a hF => ?_)
                 refine sq_nil ?_
                 refine then_n ?_
                 refine wp_ret ?_
                 obtain rfl := Option.some.inj h
                 exact ret1 hF rfl (rv_tmp hF rfl) ⟨_, rfl, rfl, (hS.keep (List.nil_sublist _) (List.Sublist.refl _) trivial)⟩
                ·
                 by_cases he54 : ((u0.Kind != 3) && (u0.Kind != 5)) = true
                 ·
                  refine sq_no hF rfl rfl he54 (by rintro x ⟨⟩; decide) (fun a hF => ?_)
                  refine sq_no hF rfl rfl he54 (by rintro x ⟨⟩; decide) (fun a hF => ?_)
                  refine sq_no hF rfl rfl he54 (by rintro x ⟨⟩; decide) (fun a hF => ?_)
                  refine sq_no hF rfl rfl he54 (by rintro x ⟨⟩; decide) (fun a hF => ?_)
                  refine sq_val (v_pick_t hF rfl he54 rfl) hF (by decide) (fun a hF => ?_)
                  exact sq_nil (then_j ⟨(hF.keep ⟨(boolV (or_t he54)), trivial⟩), hS⟩)
                 ·
                  have he54 : ((u0.Kind != 3) && (u0.Kind != 5)) = false := nB he54
                  refine sq_yes hF rfl rfl he54 ?_
                  refine sq_val (v_fieldAddr hF rfl pf40_3) hF (by decide) (fun a hF => ?_)
                  refine sq_yes hF rfl rfl he54 ?_
                  refine sq_val (v_load1 hF rfl pa38 (cells_sub (vs := [.slice A0_0 ((u0.Acts).length) c0_0]) (hS.bc (i := 0) rfl) rfl rfl)) hF (by decide) (fun a hF => ?_)
                  refine sq_yes hF rfl rfl he54 ?_
                  refine sq_val (v_len hF rfl pu38) hF (by decide) (fun a hF => ?_)
                  refine sq_yes hF rfl rfl he54 ?_
                  refine sq_val (v_eql hF rfl rfl) hF (by decide) (fun a hF => ?_)
                  refine sq_val (v_pick_f hF rfl he54 rfl) hF (by decide) (fun a hF => ?_)
                  exact sq_nil (then_j ⟨(hF.keep ⟨(boolV (or_f he54)), trivial⟩), hS⟩)
               ·
                by_cases he53 : (u0.Kind != 3) = true
                ·
                 refine sq_yes hF rfl rfl he53 ?_
                 refine sq_val (v_fieldAddr hF rfl pf40_0) hF (by decide) (fun a hF => ?_)
                 refine sq_yes hF rfl rfl he53 ?_
                 refine sq_val (v_load1 hF rfl pa3 (cells_sub (vs := [.int .i64 (u0.Kind)]) (hS.bc (i := 0) rfl) rfl rfl)) hF (by decide) (fun a hF => ?_)
                 refine sq_yes hF rfl rfl he53 ?_
                 refine sq_val (v_neq hF rfl rfl) hF (by decide) (fun a hF => ?_)
                 refine sq_val (v_pick_t hF rfl he53 rfl) hF (by decide) (fun a hF => ?_)
                 exact sq_nil (then_j ⟨(hF.keep ⟨rfl, (boolV (and_t he53)), trivial⟩), hS⟩)
                ·
                 have he53 : (u0.Kind != 3) = false := nB he53
                 refine sq_no hF rfl rfl he53 (by rintro x ⟨⟩; decide) (fun a hF => ?_)
                 refine sq_no hF rfl rfl he53 (by rintro x ⟨⟩; decide) (fun a hF => ?_)
                 refine sq_no hF rfl rfl he53 (by rintro x ⟨⟩; decide) (fun a hF => ?_)
                 refine sq_val (v_pick_f hF rfl he53 rfl) hF (by decide) (fun a hF => ?_)
                 exact sq_nil (then_j ⟨(hF.keep ⟨rfl, (boolV (and_f he53)), trivial⟩), hS⟩)
             ·
              by_cases he51 : ((u0.Kind == 2) || (u0.Kind == 3)) = true
              ·
               refine sq_yes hF rfl rfl he51 ?_
               refine sq_val (v_fieldAddr hF rfl pf40_2) hF (by decide) (fun a hF => ?_)
               refine sq_yes hF rfl rfl he51 ?_
               refine sq_val (v_load1 hF rfl pa3 (cells_sub (vs := [.int .i64 (u0.Prio)]) (hS.bc (i := 0) rfl) rfl rfl)) hF (by decide) (fun a hF => ?_)
               refine sq_yes hF rfl rfl he51 ?_
               refine sq_val (v_neq hF rfl rfl) hF (by decide) (fun a hF => ?_)
               refine sq_val (v_pick_t hF rfl he51 rfl) hF (by decide) (fun a hF => ?_)
               exact sq_nil (then_j ⟨(hF.keep ⟨rfl, (boolV (and_t he51)), trivial⟩), hS⟩)
              ·
               have he51 : ((u0.Kind == 2) || (u0.Kind == 3)) = false := nB he51
               refine sq_no hF rfl rfl he51 (by rintro x ⟨⟩; decide) (fun a hF => ?_)
               refine sq_no hF rfl rfl he51 (by rintro x ⟨⟩; decide) (fun a hF => ?_)
               refine sq_no hF rfl rfl he51 (by rintro x ⟨⟩; decide) (fun a hF => ?_)
               refine sq_val (v_pick_f hF rfl he51 rfl) hF (by decide) (fun a hF => ?_)
               exact sq_nil (then_j ⟨(hF.keep ⟨rfl, (boolV (and_f he51)), trivial⟩), hS⟩)
            ·
             by_cases he50 : (u0.Kind == 2) = true
             ·
              refine sq_no hF rfl rfl he50 (by rintro x ⟨⟩; decide) (fun a hF => ?_)
              refine sq_no hF rfl rfl he50 (by rintro x ⟨⟩; decide) (fun a hF => ?_)
              refine sq_no hF rfl rfl he50 (by rintro x ⟨⟩; decide) (fun a hF => ?_)
              refine sq_val (v_pick_t hF rfl he50 rfl) hF (by decide) (fun a hF => ?_)
              exact sq_nil (then_j ⟨(hF.keep ⟨rfl, (boolV (or_t he50)), trivial⟩), hS⟩)
             ·
              have he50 : (u0.Kind == 2) = false := nB he50
              refine sq_yes hF rfl rfl he50 ?_
              refine sq_val (v_fieldAddr hF rfl pf40_0) hF (by decide) (fun a hF => ?_)
              refine sq_yes hF rfl rfl he50 ?_
              refine sq_val (v_load1 hF rfl pa3 (cells_sub (vs := [.int .i64 (u0.Kind)]) (hS.bc (i := 0) rfl) rfl rfl)) hF (by decide) (fun a hF => ?_)
              refine sq_yes hF rfl rfl he50 ?_
              refine sq_val (v_eql hF rfl rfl) hF (by decide) (fun a hF => ?_)
              refine sq_val (v_pick_f hF rfl he50 rfl) hF (by decide) (fun a hF => ?_)
              exact sq_nil (then_j ⟨(hF.keep ⟨rfl, (boolV (or_f he50)), trivial⟩), hS⟩)
          ·
           by_cases he46 : (u0.Kind != 1) = true
           ·
            refine sq_yes hF rfl rfl he46 ?_
            refine sq_val (v_fieldAddr hF rfl pf40_4) hF (by decide) (fun a hF => ?_)
            refine sq_yes hF rfl rfl he46 ?_
            refine sq_val (v_load1 hF rfl pa3 (cells_sub (vs := [.int .i64 (u0.Idle)]) (hS.bc (i := 0) rfl) rfl rfl)) hF (by decide) (fun a hF => ?_)
            refine sq_yes hF rfl rfl he46 ?_
            refine sq_val (v_neq hF rfl rfl) hF (by decide) (fun a hF => ?_)
            refine sq_yes hF rfl rfl he46 ?_
            refine sq_val (v_move hF rfl) hF (by decide) (fun a hF => ?_)
            refine sq_cut 4 (fun a W => FH 91 [(1, .pointer (some (⟨b1, 0, none⟩))), (50, .bool ((u0.Kind != 1))), (58, .bool ((u0.Idle != 0) || (u0.Hard != 0)))] a ∧ St M w0 [⟨b1, TMod.enc u0 A0_0 c0_0, 40⟩] [] [fSl k_TAct A0_0 c0_0 u0.Acts] W) (fun a W hJ => ?_) ?_
            ·
             obtain ⟨hF, hS⟩ := hJ
             refine sq_yes hF rfl rfl he46 ?_
             refine sq_val (v_move hF rfl) hF (by decide) (fun a hF => ?_)
             refine sq_cut 3 (fun a W => FH 91 [(1, .pointer (some (⟨b1, 0, none⟩))), (50, .bool ((u0.Kind != 1))), (62, .bool (((u0.Idle != 0) || (u0.Hard != 0)) || u0.Check))] a ∧ St M w0 [⟨b1, TMod.enc u0 A0_0 c0_0, 40⟩] [] [fSl k_TAct A0_0 c0_0 u0.Acts] W) (fun a W hJ => ?_) ?_
             ·
              obtain ⟨hF, hS⟩ := hJ
              refine sq_val (v_pick_t hF rfl he46 rfl) hF (by decide) (fun a hF => ?_)
              exact sq_nil (then_j ⟨(hF.keep ⟨rfl, (boolV (and_t he46)), trivial⟩), hS⟩)
             ·
              by_cases he48 : ((u0.Idle != 0) || (u0.Hard != 0)) = true
              ·
               refine sq_no hF rfl rfl he48 (by rintro x ⟨⟩; decide) (fun a hF => ?_)
               refine sq_no hF rfl rfl he48 (by rintro x ⟨⟩; decide) (fun a hF => ?_)
               refine sq_yes hF rfl rfl he46 ?_
               refine sq_val (v_pick_t hF rfl he48 rfl) hF (by decide) (fun a hF => ?_)
               exact sq_nil (then_j ⟨(hF.keep ⟨rfl, rfl, (boolV (or_t he48)), trivial⟩), hS⟩)
              ·
               have he48 : ((u0.Idle != 0) || (u0.Hard != 0)) = false := nB he48
               refine sq_yes hF rfl rfl he48 ?_
               refine sq_val (v_fieldAddr hF rfl pf40_7) hF (by decide) (fun a hF => ?_)
               refine sq_yes hF rfl rfl he48 ?_
               refine sq_val (v_load1 hF rfl pa4 (cells_sub (vs := [.bool (u0.Check)]) (hS.bc (i := 0) rfl) rfl rfl)) hF (by decide) (fun a hF => ?_)
               refine sq_yes hF rfl rfl he46 ?_
               refine sq_val (v_pick_f hF rfl he48 rfl) hF (by decide) (fun a hF => ?_)
               exact sq_nil (then_j ⟨(hF.keep ⟨rfl, rfl, (boolV (or_f he48)), trivial⟩), hS⟩)
            ·
             by_cases he47 : (u0.Idle != 0) = true
             ·
              refine sq_no hF rfl rfl he47 (by rintro x ⟨⟩; decide) (fun a hF => ?_)
              refine sq_no hF rfl rfl he47 (by rintro x ⟨⟩; decide) (fun a hF => ?_)
              refine sq_no hF rfl rfl he47 (by rintro x ⟨⟩; decide) (fun a hF => ?_)
              refine sq_yes hF rfl rfl he46 ?_
              refine sq_val (v_pick_t hF rfl he47 rfl) hF (by decide) (fun a hF => ?_)
              exact sq_nil (then_j ⟨(hF.keep ⟨rfl, rfl, (boolV (or_t he47)), trivial⟩), hS⟩)
             ·
              have he47 : (u0.Idle != 0) = false := nB he47
              refine sq_yes hF rfl rfl he47 ?_
              refine sq_val (v_fieldAddr hF rfl pf40_5) hF (by decide) (fun a hF => ?_)
              refine sq_yes hF rfl rfl he47 ?_
              refine sq_val (v_load1 hF rfl pa3 (cells_sub (vs := [.int .i64 (u0.Hard)]) (hS.bc (i := 0) rfl) rfl rfl)) hF (by decide) (fun a hF => ?_)
              refine sq_yes hF rfl rfl he47 ?_
              refine sq_val (v_neq hF rfl rfl) hF (by decide) (fun a hF => ?_)
              refine sq_yes hF rfl rfl he46 ?_
              refine sq_val (v_pick_f hF rfl he47 rfl) hF (by decide) (fun a hF => ?_)
              exact sq_nil (then_j ⟨(hF.keep ⟨rfl, rfl, (boolV (or_f he47)), trivial⟩), hS⟩)
           ·
            have he46 : (u0.Kind != 1) = false := nB he46
            refine sq_no hF rfl rfl he46 (by rintro x ⟨⟩; decide) (fun a hF => ?_)
            refine sq_no hF rfl rfl he46 (by rintro x ⟨⟩; decide) (fun a hF => ?_)
            refine sq_no hF rfl rfl he46 (by rintro x ⟨⟩; decide) (fun a hF => ?_)
            refine sq_no hF rfl rfl he46 (by rintro x ⟨⟩; decide) (fun a hF => ?_)
            refine sq_no2 hF rfl rfl (by rintro x ⟨⟩; decide) (fun a hF => ?_)
            refine sq_no2 hF rfl rfl (by rintro x ⟨⟩; decide) (fun a hF => ?_)
            refine sq_no2 hF rfl rfl (by rintro x ⟨⟩; decide) (fun a hF => ?_)
            refine sq_no hF rfl rfl he46 (by rintro x ⟨⟩; decide) (fun a hF => ?_)
            refine sq_no hF rfl rfl he46 (by rintro x ⟨⟩; decide) (fun a hF => ?_)
            refine sq_no2 hF rfl rfl (by rintro x ⟨⟩; decide) (fun a hF => ?_)
            refine sq_no2 hF rfl rfl (by rintro x ⟨⟩; decide) (fun a hF => ?_)
            refine sq_no hF rfl rfl he46 (by rintro x ⟨⟩; decide) (fun a hF => ?_)
            refine sq_val (v_pick_f hF rfl he46 rfl) hF (by decide) (fun a hF => ?_)
            exact sq_nil (then_j ⟨(hF.keep ⟨rfl, (boolV (and_f he46)), trivial⟩), hS⟩)
        ·
         by_cases he38 : x32 = true
         ·
          replace h := ifT he38 h
          refine sq_no hF rfl rfl he38 (by rintro x ⟨⟩; decide) (fun a hF => ?_)
          refine sq_no hF rfl rfl he38 (by rintro x ⟨⟩; decide) (fun a hF => ?_)
          refine sq_no hF rfl rfl he38 (by rintro x ⟨⟩; decide) (fun a hF => ?_)
          refine sq_no hF rfl rfl he38 (by rintro x ⟨⟩; decide) (fun a hF => ?_)
          refine sq_val (v_pick_t hF rfl he38 rfl) hF (by decide) (fun a hF => ?_)
          obtain rfl := Option.some.inj h
          exact sq_nil (then_j ⟨(hF.keep ⟨rfl, rfl, trivial⟩), hS⟩)
         ·
          have he38 : x32 = false := nB he38
          replace h := ifF he38 h
          refine sq_yes hF rfl rfl he38 ?_
          refine sq_val (v_fieldAddr hF rfl pf40_5) hF (by decide) (fun a hF => ?_)
          refine sq_yes hF rfl rfl he38 ?_
          refine sq_val (v_load1 hF rfl pa3 (cells_sub (vs := [.int .i64 (u0.Hard)]) (hS.bc (i := 0) rfl) rfl rfl)) hF (by decide) (fun a hF => ?_)
          refine sq_yes hF rfl rfl he38 ?_
          obtain ⟨x42, hx43, h⟩ := bindS h
          refine sq_call hF pc80 rfl (by decide) (ok_ref04_span (hS.enter trivial) hx43) (fun v W hR a hF => ?_)
          obtain ⟨rfl, hT44⟩ := hR
          have hS := hS.grow hT44.below
          refine sq_yes hF rfl rfl he38 ?_
          refine sq_val (v_not hF rfl) hF (by decide) (fun a hF => ?_)
          refine sq_val (v_pick_f hF rfl he38 rfl) hF (by decide) (fun a hF => ?_)
          obtain rfl := Option.some.inj h
          exact sq_nil (then_j ⟨(hF.keep ⟨rfl, rfl, trivial⟩), hS⟩)
       ·
        by_cases he31 : x25 = true
        ·
         replace h := ifT he31 h
         refine sq_no hF rfl rfl he31 (by rintro x ⟨⟩; decide) (fun a hF => ?_)
         refine sq_no hF rfl rfl he31 (by rintro x ⟨⟩; decide) (fun a hF => ?_)
         refine sq_no hF rfl rfl he31 (by rintro x ⟨⟩; decide) (fun a hF => ?_)
         refine sq_no hF rfl rfl he31 (by rintro x ⟨⟩; decide) (fun a hF => ?_)
         refine sq_val (v_pick_t hF rfl he31 rfl) hF (by decide) (fun a hF => ?_)
         obtain rfl := Option.some.inj h
         exact sq_nil (then_j ⟨(hF.keep ⟨rfl, rfl, trivial⟩), hS⟩)
        ·
         have he31 : x25 = false := nB he31
         replace h := ifF he31 h
         refine sq_yes hF rfl rfl he31 ?_
         refine sq_val (v_fieldAddr hF rfl pf40_4) hF (by decide) (fun a hF => ?_)
         refine sq_yes hF rfl rfl he31 ?_
         refine sq_val (v_load1 hF rfl pa3 (cells_sub (vs := [.int .i64 (u0.Idle)]) (hS.bc (i := 0) rfl) rfl rfl)) hF (by decide) (fun a hF => ?_)
         refine sq_yes hF rfl rfl he31 ?_
         obtain ⟨x35, hx36, h⟩ := bindS h
         refine sq_call hF pc80 rfl (by decide) (ok_ref04_span (hS.enter trivial) hx36) (fun v W hR a hF => ?_)
         obtain ⟨rfl, hT37⟩ := hR
         have hS := hS.grow hT37.below
         refine sq_yes hF rfl rfl he31 ?_
         refine sq_val (v_not hF rfl) hF (by decide) (fun a hF => ?_)
         refine sq_val (v_pick_f hF rfl he31 rfl) hF (by decide) (fun a hF => ?_)
         obtain rfl := Option.some.inj h
         exact sq_nil (then_j ⟨(hF.keep ⟨rfl, rfl, trivial⟩), hS⟩)
      ·
       by_cases he24 : x18 = true
       ·
        replace h := ifT he24 h
        refine sq_no hF rfl rfl he24 (by rintro x ⟨⟩; decide) (fun a hF => ?_)
        refine sq_no hF rfl rfl he24 (by rintro x ⟨⟩; decide) (fun a hF => ?_)
        refine sq_no hF rfl rfl he24 (by rintro x ⟨⟩; decide) (fun a hF => ?_)
        refine sq_no hF rfl rfl he24 (by rintro x ⟨⟩; decide) (fun a hF => ?_)
        refine sq_val (v_pick_t hF rfl he24 rfl) hF (by decide) (fun a hF => ?_)
        obtain rfl := Option.some.inj h
        exact sq_nil (then_j ⟨(hF.keep ⟨rfl, rfl, trivial⟩), hS⟩)
       ·
        have he24 : x18 = false := nB he24
        replace h := ifF he24 h
        refine sq_yes hF rfl rfl he24 ?_
        refine sq_val (v_fieldAddr hF rfl pf40_6) hF (by decide) (fun a hF => ?_)
        refine sq_yes hF rfl rfl he24 ?_
        refine sq_val (v_load1 hF rfl pa3 (cells_sub (vs := [.int .i64 (u0.Owner)]) (hS.bc (i := 0) rfl) rfl rfl)) hF (by decide) (fun a hF => ?_)
        refine sq_yes hF rfl rfl he24 ?_
        obtain ⟨x28, hx29, h⟩ := bindS h
        refine sq_call hF pc80 rfl (by decide) (ok_ref04_span (hS.enter trivial) hx29) (fun v W hR a hF => ?_)
        obtain ⟨rfl, hT30⟩ := hR
        have hS := hS.grow hT30.below
        refine sq_yes hF rfl rfl he24 ?_
        refine sq_val (v_not hF rfl) hF (by decide) (fun a hF => ?_)
        refine sq_val (v_pick_f hF rfl he24 rfl) hF (by decide) (fun a hF => ?_)
        obtain rfl := Option.some.inj h
        exact sq_nil (then_j ⟨(hF.keep ⟨rfl, rfl, trivial⟩), hS⟩)
     ·
      by_cases he17 : x11 = true
      ·
       replace h := ifT he17 h
       refine sq_no hF rfl rfl he17 (by rintro x ⟨⟩; decide) (fun a hF => ?_)
       refine sq_no hF rfl rfl he17 (by rintro x ⟨⟩; decide) (fun a hF => ?_)
       refine sq_no hF rfl rfl he17 (by rintro x ⟨⟩; decide) (fun a hF => ?_)
       refine sq_no hF rfl rfl he17 (by rintro x ⟨⟩; decide) (fun a hF => ?_)
       refine sq_val (v_pick_t hF rfl he17 rfl) hF (by decide) (fun a hF => ?_)
       obtain rfl := Option.some.inj h
       exact sq_nil (then_j ⟨(hF.keep ⟨rfl, rfl, trivial⟩), hS⟩)
      ·
       have he17 : x11 = false := nB he17
       replace h := ifF he17 h
       refine sq_yes hF rfl rfl he17 ?_
       refine sq_val (v_fieldAddr hF rfl pf40_2) hF (by decide) (fun a hF => ?_)
       refine sq_yes hF rfl rfl he17 ?_
       refine sq_val (v_load1 hF rfl pa3 (cells_sub (vs := [.int .i64 (u0.Prio)]) (hS.bc (i := 0) rfl) rfl rfl)) hF (by decide) (fun a hF => ?_)
       refine sq_yes hF rfl rfl he17 ?_
       obtain ⟨x21, hx22, h⟩ := bindS h
       refine sq_call hF pc80 rfl (by decide) (ok_ref04_span (hS.enter trivial) hx22) (fun v W hR a hF => ?_)
       obtain ⟨rfl, hT23⟩ := hR
       have hS := hS.grow hT23.below
       refine sq_yes hF rfl rfl he17 ?_
       refine sq_val (v_not hF rfl) hF (by decide) (fun a hF => ?_)
       refine sq_val (v_pick_f hF rfl he17 rfl) hF (by decide) (fun a hF => ?_)
       obtain rfl := Option.some.inj h
       exact sq_nil (then_j ⟨(hF.keep ⟨rfl, rfl, trivial⟩), hS⟩)
    ·
     by_cases he10 : x4 = true
     ·
      replace h := ifT he10 h
      refine sq_no hF rfl rfl he10 (by rintro x ⟨⟩; decide) (fun a hF => ?_)
      refine sq_no hF rfl rfl he10 (by rintro x ⟨⟩; decide) (fun a hF => ?_)
      refine sq_no hF rfl rfl he10 (by rintro x ⟨⟩; decide) (fun a hF => ?_)
      refine sq_no hF rfl rfl he10 (by rintro x ⟨⟩; decide) (fun a hF => ?_)
      refine sq_val (v_pick_t hF rfl he10 rfl) hF (by decide) (fun a hF => ?_)
      obtain rfl := Option.some.inj h
      exact sq_nil (then_j ⟨(hF.keep ⟨rfl, rfl, trivial⟩), hS⟩)
     ·
      have he10 : x4 = false := nB he10
      replace h := ifF he10 h
      refine sq_yes hF rfl rfl he10 ?_
      refine sq_val (v_fieldAddr hF rfl pf40_3) hF (by decide) (fun a hF => ?_)
      refine sq_yes hF rfl rfl he10 ?_
      refine sq_val (v_load1 hF rfl pa38 (cells_sub (vs := [.slice A0_0 ((u0.Acts).length) c0_0]) (hS.bc (i := 0) rfl) rfl rfl)) hF (by decide) (fun a hF => ?_)
      refine sq_yes hF rfl rfl he10 ?_
      obtain ⟨x14, hx15, h⟩ := bindS h
      refine sq_call hF pc79 rfl (by decide) (ok_ref04_Acts k (hS.enter ⟨⟨0, rfl⟩, trivial⟩) hx15) (fun v W hR a hF => ?_)
      obtain ⟨rfl, hT16⟩ := hR
      have hS := hS.grow hT16.below
      refine sq_yes hF rfl rfl he10 ?_
      refine sq_val (v_not hF rfl) hF (by decide) (fun a hF => ?_)
      refine sq_val (v_pick_f hF rfl he10 rfl) hF (by decide) (fun a hF => ?_)
      obtain rfl := Option.some.inj h
      exact sq_nil (then_j ⟨(hF.keep ⟨rfl, rfl, trivial⟩), hS⟩)
   ·
    by_cases he3 : ((decide (u0.Kind < 1)) || (decide (5 < u0.Kind))) = true
    ·
     replace h := ifT he3 h
     refine sq_no hF rfl rfl he3 (by rintro x ⟨⟩; decide) (fun a hF => ?_)
     refine sq_no hF rfl rfl he3 (by rintro x ⟨⟩; decide) (fun a hF => ?_)
     refine sq_no hF rfl rfl he3 (by rintro x ⟨⟩; decide) (fun a hF => ?_)
     refine sq_no hF rfl rfl he3 (by rintro x ⟨⟩; decide) (fun a hF => ?_)
     refine sq_val (v_pick_t hF rfl he3 rfl) hF (by decide) (fun a hF => ?_)
     obtain rfl := Option.some.inj h
     exact sq_nil (then_j ⟨(hF.keep ⟨rfl, rfl, trivial⟩), hS⟩)
    ·
     have he3 : ((decide (u0.Kind < 1)) || (decide (5 < u0.Kind))) = false := nB he3
     replace h := ifF he3 h
     refine sq_yes hF rfl rfl he3 ?_
     refine sq_val (v_fieldAddr hF rfl pf40_1) hF (by decide) (fun a hF => ?_)
     refine sq_yes hF rfl rfl he3 ?_
     refine sq_val (v_load (cs := TCube.enc u0.Match) hF rfl pa26 ps26 (cells_sub (vs := TCube.enc u0.Match) (hS.bc (i := 0) rfl) rfl rfl)) hF (by decide) (fun a hF => ?_)
     refine sq_yes hF rfl rfl he3 ?_
     obtain ⟨x7, hx8, h⟩ := bindS h
     refine sq_call hF pc17 rfl (by decide) (ok_ref01_Cube k (hS.enter trivial) hx8) (fun v W hR a hF => ?_)
     obtain ⟨rfl, hT9⟩ := hR
     have hS := hS.grow hT9.below
     refine sq_yes hF rfl rfl he3 ?_
     refine sq_val (v_not hF rfl) hF (by decide) (fun a hF => ?_)
     refine sq_val (v_pick_f hF rfl he3 rfl) hF (by decide) (fun a hF => ?_)
     obtain rfl := Option.some.inj h
     exact sq_nil (then_j ⟨(hF.keep ⟨rfl, rfl, trivial⟩), hS⟩)
  ·
   by_cases he2 : (decide (u0.Kind < 1)) = true
   ·
    refine sq_no hF rfl rfl he2 (by rintro x ⟨⟩; decide) (fun a hF => ?_)
    refine sq_no hF rfl rfl he2 (by rintro x ⟨⟩; decide) (fun a hF => ?_)
    refine sq_no hF rfl rfl he2 (by rintro x ⟨⟩; decide) (fun a hF => ?_)
    refine sq_val (v_pick_t hF rfl he2 rfl) hF (by decide) (fun a hF => ?_)
    exact sq_nil (then_j ⟨(hF.keep ⟨rfl, (boolV (or_t he2)), trivial⟩), hS⟩)
   ·
    have he2 : (decide (u0.Kind < 1)) = false := nB he2
    refine sq_yes hF rfl rfl he2 ?_
    refine sq_val (v_fieldAddr hF rfl pf40_0) hF (by decide) (fun a hF => ?_)
    refine sq_yes hF rfl rfl he2 ?_
    refine sq_val (v_load1 hF rfl pa3 (cells_sub (vs := [.int .i64 (u0.Kind)]) (hS.bc (i := 0) rfl) rfl rfl)) hF (by decide) (fun a hF => ?_)
    refine sq_yes hF rfl rfl he2 ?_
    refine sq_val (v_gtr hF rfl rfl) hF (by decide) (fun a hF => ?_)
    refine sq_val (v_pick_f hF rfl he2 rfl) hF (by decide) (fun a hF => ?_)
    exact sq_nil (then_j ⟨(hF.keep ⟨rfl, (boolV (or_f he2)), trivial⟩), hS⟩)

theorem ok_ref04_Key {M : Nat → Prop} {w0 : World} {u0 : TRule} {A0_0 : Option Addr} {c0_0 : Nat} {u1 : TRule} {A1_0 : Option Addr} {c1_0 : Nat} {o : Bool} (hS : St M w0 [] [] [fSl k_TAct A0_0 c0_0 u0.Acts, fSl k_TAct A1_0 c1_0 u1.Acts] w0) (h : ref04_Key u0 u1 = some o) :
    Calls Try.prog 71 #[.agg (TRule.enc u0 A0_0 c0_0).toArray, .agg (TRule.enc u1 A1_0 c1_0).toArray] w0 fun e W' => ∃ v, e = .returned v ∧ (v = .bool (o) ∧ St M w0 [] [] [] W') := by
  unfold ref04_Key at h
  refine calls_start (args := [.agg (TRule.enc u0 A0_0 c0_0).toArray, .agg (TRule.enc u1 A1_0 c1_0).toArray]) Try.func71 rfl rfl (Nat.le_of_ble_eq_true rfl) (fun a hF => ?_)
  refine wp_seq ?_
  refine wp_reg ?_
  refine sq_box hF hS rfl rfl (by decide) (fun b1 a W hF hS => ?_)
  refine sq_box hF hS rfl rfl (by decide) (fun b2 a W hF hS => ?_)
  refine sq_val (v_assign hF rfl) hF (by decide) (fun a hF => ?_)
  refine sq_nil ?_
  refine then_n ?_
  refine wp_seq ?_
  refine wp_reg ?_
  refine sq_val (v_fieldAddr hF rfl pf65_0) hF (by decide) (fun a hF => ?_)
  refine sq_val (v_load (cs := TCube.enc u0.Match) hF rfl pa26 ps26 (cells_sub (vs := TCube.enc u0.Match) (hS.bc (i := 1) rfl) rfl rfl)) hF (by decide) (fun a hF => ?_)
  refine sq_val (v_fieldAddr hF rfl pf65_0) hF (by decide) (fun a hF => ?_)
  refine sq_val (v_load (cs := TCube.enc u1.Match) hF rfl pa26 ps26 (cells_sub (vs := TCube.enc u1.Match) (hS.bc (i := 0) rfl) rfl rfl)) hF (by decide) (fun a hF => ?_)
  refine sq_val (eq26 hF rfl rfl).1 hF (by decide) (fun a hF => ?_)
  refine sq_val (v_move hF rfl) hF (by decide) (fun a hF => ?_)
  refine sq_cut 6 (fun a W => FH 17 [(16, .bool ((cellsEq (TCube.enc u0.Match) (TCube.enc u1.Match)) && (u0.Prio == u1.Prio)))] a ∧ St M w0 [⟨b2, TRule.enc u1 A1_0 c1_0, 65⟩, ⟨b1, TRule.enc u0 A0_0 c0_0, 65⟩] [] [fSl k_TAct A0_0 c0_0 u0.Acts, fSl k_TAct A1_0 c1_0 u1.Acts] W) (fun a W hJ => ?_) ?_
  ·
   obtain ⟨hF, hS⟩ := hJ
   refine sq_val (v_assign hF rfl) hF (by decide) (fun a hF => ?_)
   refine sq_nil ?_
   refine then_n ?_
   refine wp_ret ?_
   obtain rfl := Option.some.inj h
   exact ret1 hF rfl (rv_tmp hF rfl) ⟨_, rfl, rfl, (hS.keep (List.nil_sublist _) (List.Sublist.refl _) trivial)⟩
  ·
   by_cases he3 : (cellsEq (TCube.enc u0.Match) (TCube.enc u1.Match)) = true
   ·
    refine sq_yes hF rfl rfl he3 ?_
    refine sq_val (v_fieldAddr hF rfl pf65_1) hF (by decide) (fun a hF => ?_)
    refine sq_yes hF rfl rfl he3 ?_
    refine sq_val (v_load1 hF rfl pa3 (cells_sub (vs := [.int .i64 (u0.Prio)]) (hS.bc (i := 1) rfl) rfl rfl)) hF (by decide) (fun a hF => ?_)
    refine sq_yes hF rfl rfl he3 ?_
    refine sq_val (v_fieldAddr hF rfl pf65_1) hF (by decide) (fun a hF => ?_)
    refine sq_yes hF rfl rfl he3 ?_
    refine sq_val (v_load1 hF rfl pa3 (cells_sub (vs := [.int .i64 (u1.Prio)]) (hS.bc (i := 0) rfl) rfl rfl)) hF (by decide) (fun a hF => ?_)
    refine sq_yes hF rfl rfl he3 ?_
    refine sq_val (v_eql hF rfl rfl) hF (by decide) (fun a hF => ?_)
    refine sq_val (v_pick_t hF rfl he3 rfl) hF (by decide) (fun a hF => ?_)
    exact sq_nil (then_j ⟨(hF.keep ⟨(boolV (and_t he3)), trivial⟩), hS⟩)
   ·
    have he3 : (cellsEq (TCube.enc u0.Match) (TCube.enc u1.Match)) = false := nB he3
    refine sq_no hF rfl rfl he3 (by rintro x ⟨⟩; decide) (fun a hF => ?_)
    refine sq_no hF rfl rfl he3 (by rintro x ⟨⟩; decide) (fun a hF => ?_)
    refine sq_no hF rfl rfl he3 (by rintro x ⟨⟩; decide) (fun a hF => ?_)
    refine sq_no hF rfl rfl he3 (by rintro x ⟨⟩; decide) (fun a hF => ?_)
    refine sq_no hF rfl rfl he3 (by rintro x ⟨⟩; decide) (fun a hF => ?_)
    refine sq_val (v_pick_f hF rfl he3 rfl) hF (by decide) (fun a hF => ?_)
    exact sq_nil (then_j ⟨(hF.keep ⟨(boolV (and_f he3)), trivial⟩), hS⟩)

theorem ok_ref01_From (k : Nat) {M : Nat → Prop} {w0 : World} {u0 : ByteArray} {o : TCube} (hS : St M w0 [] [] [] w0) (h : ref01_From k u0 = some o) :
    Calls Try.prog 56 #[.string (u0)] w0 fun e W' => ∃ v, e = .returned v ∧ (v = .agg (TCube.enc o).toArray ∧ St M w0 [] [] [] W') := by
  unfold ref01_From at h
  refine calls_start (args := [.string (u0)]) Try.func56 rfl rfl (Nat.le_of_ble_eq_true rfl) (fun a hF => ?_)
  refine wp_seq ?_
  refine wp_reg ?_
  refine sq_alloc hF hS pz26 rfl (by decide) (fun b1 a W hF hS => ?_)
  refine sq_nil ?_
  refine then_n ?_
  refine wp_seq ?_
  refine wp_reg ?_
  refine sq_alloc hF hS pz26 rfl (by decide) (fun b2 a W hF hS => ?_)
  refine sq_nil ?_
  refine then_n ?_
  refine wp_seq ?_
  refine wp_reg ?_
  refine sq_val (v_assign hF rfl) hF (by decide) (fun a hF => ?_)
  refine sq_nil ?_
  refine then_n ?_
  refine wp_seq ?_
  refine wp_seq ?_
  refine wp_reg ?_
  refine sq_val (v_assign hF rfl) hF (by decide) (fun a hF => ?_)
  refine sq_nil ?_
  refine then_n ?_
  obtain ⟨o12, h, hk13⟩ := bindS h
  refine wp_join (fun a W => ∃ (x11 : TCube), x11 = o12 ∧ FH 58 [(2, .pointer (some (⟨b1, 0, none⟩))), (3, .pointer (some (⟨b2, 0, none⟩)))] a ∧ St M w0 [⟨b2, TCube.enc x11, 26⟩, ⟨b1, TCube.enc TCube.zero, 26⟩] [] [] W) (fun a W hJ => ?_) ?_
  ·
   obtain ⟨x11, rfl, hF, hS⟩ := hJ
   have h := hk13
   refine then_n ?_
   refine wp_seq ?_
   refine wp_reg ?_
   refine sq_val (v_load (cs := TCube.enc x11) hF rfl pa26 ps26 (hS.bc (i := 0) rfl)) hF (by decide) (fun a hF => ?_)
   refine sq_store (o := 0) (vs := TCube.enc x11) (cs' := TCube.enc x11) hF hS rfl rfl (i := 1) rfl rfl rfl ps26 (TCube.enc_one _) (Nat.le_of_ble_eq_true rfl) rfl (fun W hS => ?_)
   refine sq_nil ?_
   refine then_n ?_
   refine wp_ret ?_
   obtain rfl := Option.some.inj h
   exact ret1 hF rfl (rv_cell (cs := TCube.enc x11) hF rfl pa26 ps26 (hS.bc (i := 1) rfl)) ⟨_, rfl, rfl, (hS.keep (List.nil_sublist _) (List.Sublist.refl _) trivial)⟩
  ·
   refine wp_block ?_
   refine wp_loop_fuel (I := fun m a W => ∃ (x8 : TCube) (x9 : Int) (x10 : Int), FH 58 [(0, .string (u0)), (2, .pointer (some (⟨b1, 0, none⟩))), (3, .pointer (some (⟨b2, 0, none⟩))), (4, .int .i64 (x9)), (5, .int .i64 (x10))] a ∧ St M w0 [⟨b2, TCube.enc x8, 26⟩, ⟨b1, TCube.enc TCube.zero, 26⟩] [] [] W ∧ (ref01_From.l0 k u0 m x8 x9 x10) = some o12) ?_ (k := k) ⟨TCube.zero, 0, 0, (hF.keep ⟨rfl, rfl, rfl, rfl, rfl, trivial⟩), hS, h⟩
   rintro m14 a W ⟨x8, x9, x10, hF, hS, h⟩
   cases m14 with
   | zero => cases h
   | succ m14 =>
    rw [ref01_From.l0] at h
    refine wp_seq ?_
    refine wp_seq ?_
    refine wp_reg ?_
    refine sq_val (v_move hF rfl) hF (by decide) (fun a hF => ?_)
    refine sq_val (v_lss hF rfl rfl) hF (by decide) (fun a hF => ?_)
    refine sq_nil ?_
    refine then_n ?_
    refine wp_if hF rfl (fun he15 => ?_) (fun he15 => ?_)
    ·
     replace h := ifT he15 h
     refine wp_skip ?_
     refine then_n ?_
     refine wp_seq ?_
     refine wp_block ?_
     refine wp_seq ?_
     refine wp_reg ?_
     refine sq_val (v_assign hF rfl) hF (by decide) (fun a hF => ?_)
     refine sq_nil ?_
     refine then_n ?_
     obtain ⟨o26, h, hk27⟩ := bindS h
     refine wp_join (fun a W => ∃ (x24 : TCube) (x25 : Int), (x24, x25) = o26 ∧ FH 58 [(0, .string (u0)), (2, .pointer (some (⟨b1, 0, none⟩))), (3, .pointer (some (⟨b2, 0, none⟩))), (4, .int .i64 (x25)), (5, .int .i64 (x10))] a ∧ St M w0 [⟨b2, TCube.enc x24, 26⟩, ⟨b1, TCube.enc TCube.zero, 26⟩] [] [] W) (fun a W hJ => ?_) ?_
     ·
      obtain ⟨x24, x25, rfl, hF, hS⟩ := hJ
      have h := hk27
      dsimp only at h
      refine blk_n ?_
      refine then_n ?_
      refine wp_reg ?_
      refine sq_val (v_move hF rfl) hF (by decide) (fun a hF => ?_)
      refine sq_val (v_add hF rfl rfl) hF (by decide) (fun a hF => ?_)
      refine sq_val (v_assign hF rfl) hF (by decide) (fun a hF => ?_)
      refine sq_nil ?_
      exact then_j ⟨m14, Nat.lt_succ_self _, x24, x25, (IntKind.i64.wrap (x10 + 1)), (hF.keep ⟨rfl, rfl, rfl, rfl, rfl, trivial⟩), hS, h⟩
     ·
      refine wp_block ?_
      refine wp_loop_fuel (I := fun m a W => ∃ (x21 : TCube) (x22 : Int) (x23 : Int), FH 58 [(0, .string (u0)), (2, .pointer (some (⟨b1, 0, none⟩))), (3, .pointer (some (⟨b2, 0, none⟩))), (4, .int .i64 (x22)), (5, .int .i64 (x10)), (6, .int .i64 (x23))] a ∧ St M w0 [⟨b2, TCube.enc x21, 26⟩, ⟨b1, TCube.enc TCube.zero, 26⟩] [] [] W ∧ (ref01_From.l1 k u0 x10 m x21 x22 x23) = some o26) ?_ (k := k) ⟨x8, x9, 0, (hF.keep ⟨rfl, rfl, rfl, rfl, rfl, rfl, trivial⟩), hS, h⟩
      rintro m28 a W ⟨x21, x22, x23, hF, hS, h⟩
      cases m28 with
      | zero => cases h
      | succ m28 =>
       rw [ref01_From.l1] at h
       refine wp_seq ?_
       refine wp_seq ?_
       refine wp_reg ?_
       refine sq_val (v_move hF rfl) hF (by decide) (fun a hF => ?_)
       refine sq_val (v_move hF rfl) hF (by decide) (fun a hF => ?_)
       obtain ⟨x29, hx30, h⟩ := bindS h
       refine sq_call hF pc110 rfl (by decide) (ok_ref01_Size (hS.enter trivial) hx30) (fun v W hR a hF => ?_)
       obtain ⟨rfl, hT31⟩ := hR
       have hS := hS.grow hT31.below
       refine sq_val (v_lss hF rfl rfl) hF (by decide) (fun a hF => ?_)
       refine sq_nil ?_
       refine then_n ?_
       refine wp_if hF rfl (fun he32 => ?_) (fun he32 => ?_)
       ·
        replace h := ifT he32 h
        refine wp_skip ?_
        refine then_n ?_
        refine wp_seq ?_
        refine wp_block ?_
        refine wp_seq ?_
        refine wp_reg ?_
        refine sq_val (v_move hF rfl) hF (by decide) (fun a hF => ?_)
        refine sq_val (v_move hF rfl) hF (by decide) (fun a hF => ?_)
        refine sq_val (v_fieldAddr hF rfl pf26_0) hF (by decide) (fun a hF => ?_)
        obtain ⟨hb33, h⟩ := ifS h
        refine sq_val (v_indexAddr hF rfl rfl par24 hb33.1 hb33.2) hF (by decide) (fun a hF => ?_)
        refine sq_val (v_load1 hF rfl pa22 (cells_sub (vs := [.int .u64 ((x21.Value.at x10))]) (hS.bc (i := 0) rfl) (add_add _ _ _) (TCube.get_Value x21 x10 hb33.1 hb33.2))) hF (by decide) (fun a hF => ?_)
        refine sq_val (v_mul hF rfl rfl) hF (by decide) (fun a hF => ?_)
        refine sq_val (v_fieldAddr hF rfl pf26_0) hF (by decide) (fun a hF => ?_)
        refine sq_val (v_indexAddr hF rfl rfl par24 hb33.1 hb33.2) hF (by decide) (fun a hF => ?_)
        refine sq_store (o := 0 + x10.toNat * 1) (vs := [.int .u64 ((IntKind.u64.wrap ((x21.Value.at x10) * 2)))]) (cs' := TCube.enc (TCube.setValue x21 (x21.Value.upd x10 (IntKind.u64.wrap ((x21.Value.at x10) * 2))))) hF hS rfl (by simp only [add_add, add_plain, Nat.zero_add]) (i := 0) rfl rfl rfl ps22 (one1 rfl) (by have h0 := hb33.1; have h1 := hb33.2; simp only [TCube.enc, List.length_cons, List.length_nil]; omega) (TCube.set_Value x21 x10 _ hb33.1 hb33.2) (fun W hS => ?_)
        refine sq_nil ?_
        refine then_n ?_
        refine wp_seq ?_
        refine wp_reg ?_
        refine sq_val (v_move hF rfl) hF (by decide) (fun a hF => ?_)
        refine sq_val (v_move hF rfl) hF (by decide) (fun a hF => ?_)
        refine sq_val (v_fieldAddr hF rfl pf26_1) hF (by decide) (fun a hF => ?_)
        refine sq_val (v_indexAddr hF rfl rfl par24 hb33.1 hb33.2) hF (by decide) (fun a hF => ?_)
        refine sq_val (v_load1 hF rfl pa22 (cells_sub (vs := [.int .u64 ((x21.Care.at x10))]) (hS.bc (i := 0) rfl) (add_add _ _ _) (TCube.get_Care (TCube.setValue x21 (x21.Value.upd x10 (IntKind.u64.wrap ((x21.Value.at x10) * 2)))) x10 hb33.1 hb33.2))) hF (by decide) (fun a hF => ?_)
        refine sq_val (v_mul hF rfl rfl) hF (by decide) (fun a hF => ?_)
        refine sq_val (v_fieldAddr hF rfl pf26_1) hF (by decide) (fun a hF => ?_)
        refine sq_val (v_indexAddr hF rfl rfl par24 hb33.1 hb33.2) hF (by decide) (fun a hF => ?_)
        refine sq_store (o := 12 + x10.toNat * 1) (vs := [.int .u64 ((IntKind.u64.wrap ((x21.Care.at x10) * 2)))]) (cs' := TCube.enc ({ Value := (x21.Value.upd x10 (IntKind.u64.wrap ((x21.Value.at x10) * 2))), Care := (x21.Care.upd x10 (IntKind.u64.wrap ((x21.Care.at x10) * 2))) } : TCube)) hF hS rfl (by simp only [add_add, add_plain, Nat.zero_add]) (i := 0) rfl rfl rfl ps22 (one1 rfl) (by have h0 := hb33.1; have h1 := hb33.2; simp only [TCube.enc, List.length_cons, List.length_nil]; omega) (TCube.set_Care (TCube.setValue x21 (x21.Value.upd x10 (IntKind.u64.wrap ((x21.Value.at x10) * 2)))) x10 _ hb33.1 hb33.2) (fun W hS => ?_)
        refine sq_nil ?_
        refine then_n ?_
        refine wp_seq ?_
        refine wp_seq ?_
        refine wp_reg ?_
        refine sq_val (v_move hF rfl) hF (by decide) (fun a hF => ?_)
        refine sq_val (v_move hF rfl) hF (by decide) (fun a hF => ?_)
        obtain ⟨hb34, h⟩ := ifS h
        refine sq_val (v_indexStr hF rfl rfl pu9 hb34.1 hb34.2) hF (by decide) (fun a hF => ?_)
        refine sq_val (v_neq hF rfl rfl) hF (by decide) (fun a hF => ?_)
        refine sq_nil ?_
        refine then_n ?_
        obtain ⟨o36, h, hk37⟩ := bindS h
        refine wp_join (fun a W => ∃ (x35 : TCube), x35 = o36 ∧ FH 58 [(0, .string (u0)), (2, .pointer (some (⟨b1, 0, none⟩))), (3, .pointer (some (⟨b2, 0, none⟩))), (4, .int .i64 (x22)), (5, .int .i64 (x10)), (6, .int .i64 (x23))] a ∧ St M w0 [⟨b2, TCube.enc x35, 26⟩, ⟨b1, TCube.enc TCube.zero, 26⟩] [] [] W) (fun a W hJ => ?_) ?_
        ·
         obtain ⟨x35, rfl, hF, hS⟩ := hJ
         have h := hk37
         refine then_n ?_
         refine wp_seq ?_
         refine wp_seq ?_
         refine wp_reg ?_
         refine sq_val (v_move hF rfl) hF (by decide) (fun a hF => ?_)
         refine sq_val (v_move hF rfl) hF (by decide) (fun a hF => ?_)
         refine sq_val (v_indexStr hF rfl rfl pu9 hb34.1 hb34.2) hF (by decide) (fun a hF => ?_)
         refine sq_val (v_eql hF rfl rfl) hF (by decide) (fun a hF => ?_)
         refine sq_nil ?_
         refine then_n ?_
         obtain ⟨o39, h, hk40⟩ := bindS h
         refine wp_join (fun a W => ∃ (x38 : TCube), x38 = o39 ∧ FH 58 [(0, .string (u0)), (2, .pointer (some (⟨b1, 0, none⟩))), (3, .pointer (some (⟨b2, 0, none⟩))), (4, .int .i64 (x22)), (5, .int .i64 (x10)), (6, .int .i64 (x23))] a ∧ St M w0 [⟨b2, TCube.enc x38, 26⟩, ⟨b1, TCube.enc TCube.zero, 26⟩] [] [] W) (fun a W hJ => ?_) ?_
         ·
          obtain ⟨x38, rfl, hF, hS⟩ := hJ
          have h := hk40
          refine then_n ?_
          refine wp_reg ?_
          refine sq_val (v_move hF rfl) hF (by decide) (fun a hF => ?_)
          refine sq_val (v_add hF rfl rfl) hF (by decide) (fun a hF => ?_)
          refine sq_val (v_assign hF rfl) hF (by decide) (fun a hF => ?_)
          refine sq_nil ?_
          refine blk_n ?_
          refine then_n ?_
          refine wp_reg ?_
          refine sq_val (v_move hF rfl) hF (by decide) (fun a hF => ?_)
          refine sq_val (v_add hF rfl rfl) hF (by decide) (fun a hF => ?_)
          refine sq_val (v_assign hF rfl) hF (by decide) (fun a hF => ?_)
          refine sq_nil ?_
          exact then_j ⟨m28, Nat.lt_succ_self _, x38, (IntKind.i64.wrap (x22 + 1)), (IntKind.i64.wrap (x23 + 1)), (hF.keep ⟨rfl, rfl, rfl, rfl, rfl, rfl, trivial⟩), hS, h⟩
         ·
          refine wp_if hF rfl (fun he41 => ?_) (fun he41 => ?_)
          ·
           replace h := ifT he41 h
           refine wp_reg ?_
           refine sq_val (v_move hF rfl) hF (by decide) (fun a hF => ?_)
           refine sq_val (v_fieldAddr hF rfl pf26_0) hF (by decide) (fun a hF => ?_)
           refine sq_val (v_indexAddr hF rfl rfl par24 hb33.1 hb33.2) hF (by decide) (fun a hF => ?_)
           refine sq_val (v_load1 hF rfl pa22 (cells_sub (vs := [.int .u64 ((x35.Value.at x10))]) (hS.bc (i := 0) rfl) (add_add _ _ _) (TCube.get_Value x35 x10 hb33.1 hb33.2))) hF (by decide) (fun a hF => ?_)
           refine sq_val (v_add hF rfl rfl) hF (by decide) (fun a hF => ?_)
           refine sq_val (v_fieldAddr hF rfl pf26_0) hF (by decide) (fun a hF => ?_)
           refine sq_val (v_indexAddr hF rfl rfl par24 hb33.1 hb33.2) hF (by decide) (fun a hF => ?_)
           refine sq_store (o := 0 + x10.toNat * 1) (vs := [.int .u64 ((IntKind.u64.wrap ((x35.Value.at x10) + 1)))]) (cs' := TCube.enc (TCube.setValue x35 (x35.Value.upd x10 (IntKind.u64.wrap ((x35.Value.at x10) + 1))))) hF hS rfl (by simp only [add_add, add_plain, Nat.zero_add]) (i := 0) rfl rfl rfl ps22 (one1 rfl) (by have h0 := hb33.1; have h1 := hb33.2; simp only [TCube.enc, List.length_cons, List.length_nil]; omega) (TCube.set_Value x35 x10 _ hb33.1 hb33.2) (fun W hS => ?_)
           refine sq_nil ?_
           obtain rfl := Option.some.inj h
           exact then_j ⟨(TCube.setValue x35 (x35.Value.upd x10 (IntKind.u64.wrap ((x35.Value.at x10) + 1)))), rfl, (hF.keep ⟨rfl, rfl, rfl, rfl, rfl, rfl, trivial⟩), hS⟩
          ·
           replace h := ifF he41 h
           refine wp_skip ?_
           obtain rfl := Option.some.inj h
           exact then_j ⟨x35, rfl, (hF.keep ⟨rfl, rfl, rfl, rfl, rfl, rfl, trivial⟩), hS⟩
        ·
         refine wp_if hF rfl (fun he42 => ?_) (fun he42 => ?_)
         ·
          replace h := ifT he42 h
          refine wp_reg ?_
          refine sq_val (v_move hF rfl) hF (by decide) (fun a hF => ?_)
          refine sq_val (v_fieldAddr hF rfl pf26_1) hF (by decide) (fun a hF => ?_)
          refine sq_val (v_indexAddr hF rfl rfl par24 hb33.1 hb33.2) hF (by decide) (fun a hF => ?_)
          refine sq_val (v_load1 hF rfl pa22 (cells_sub (vs := [.int .u64 (((x21.Care.upd x10 (IntKind.u64.wrap ((x21.Care.at x10) * 2))).at x10))]) (hS.bc (i := 0) rfl) (add_add _ _ _) (TCube.get_Care ({ Value := (x21.Value.upd x10 (IntKind.u64.wrap ((x21.Value.at x10) * 2))), Care := (x21.Care.upd x10 (IntKind.u64.wrap ((x21.Care.at x10) * 2))) } : TCube) x10 hb33.1 hb33.2))) hF (by decide) (fun a hF => ?_)
          refine sq_val (v_add hF rfl rfl) hF (by decide) (fun a hF => ?_)
          refine sq_val (v_fieldAddr hF rfl pf26_1) hF (by decide) (fun a hF => ?_)
          refine sq_val (v_indexAddr hF rfl rfl par24 hb33.1 hb33.2) hF (by decide) (fun a hF => ?_)
          refine sq_store (o := 12 + x10.toNat * 1) (vs := [.int .u64 ((IntKind.u64.wrap (((x21.Care.upd x10 (IntKind.u64.wrap ((x21.Care.at x10) * 2))).at x10) + 1)))]) (cs' := TCube.enc ({ Value := (x21.Value.upd x10 (IntKind.u64.wrap ((x21.Value.at x10) * 2))), Care := ((x21.Care.upd x10 (IntKind.u64.wrap ((x21.Care.at x10) * 2))).upd x10 (IntKind.u64.wrap (((x21.Care.upd x10 (IntKind.u64.wrap ((x21.Care.at x10) * 2))).at x10) + 1))) } : TCube)) hF hS rfl (by simp only [add_add, add_plain, Nat.zero_add]) (i := 0) rfl rfl rfl ps22 (one1 rfl) (by have h0 := hb33.1; have h1 := hb33.2; simp only [TCube.enc, List.length_cons, List.length_nil]; omega) (TCube.set_Care ({ Value := (x21.Value.upd x10 (IntKind.u64.wrap ((x21.Value.at x10) * 2))), Care := (x21.Care.upd x10 (IntKind.u64.wrap ((x21.Care.at x10) * 2))) } : TCube) x10 _ hb33.1 hb33.2) (fun W hS => ?_)
          refine sq_nil ?_
          obtain rfl := Option.some.inj h
          exact then_j ⟨({ Value := (x21.Value.upd x10 (IntKind.u64.wrap ((x21.Value.at x10) * 2))), Care := ((x21.Care.upd x10 (IntKind.u64.wrap ((x21.Care.at x10) * 2))).upd x10 (IntKind.u64.wrap (((x21.Care.upd x10 (IntKind.u64.wrap ((x21.Care.at x10) * 2))).at x10) + 1))) } : TCube), rfl, (hF.keep ⟨rfl, rfl, rfl, rfl, rfl, rfl, trivial⟩), hS⟩
         ·
          replace h := ifF he42 h
          refine wp_skip ?_
          obtain rfl := Option.some.inj h
          exact then_j ⟨({ Value := (x21.Value.upd x10 (IntKind.u64.wrap ((x21.Value.at x10) * 2))), Care := (x21.Care.upd x10 (IntKind.u64.wrap ((x21.Care.at x10) * 2))) } : TCube), rfl, (hF.keep ⟨rfl, rfl, rfl, rfl, rfl, rfl, trivial⟩), hS⟩
       ·
        replace h := ifF he32 h
        refine wp_exit ?_
        refine then_x ?_
        refine then_x ?_
        refine blk_hit ?_
        obtain rfl := Option.some.inj h
        exact then_j ⟨x21, x22, rfl, (hF.keep ⟨rfl, rfl, rfl, rfl, rfl, trivial⟩), hS⟩
    ·
     replace h := ifF he15 h
     refine wp_exit ?_
     refine then_x ?_
     refine then_x ?_
     refine blk_hit ?_
     obtain rfl := Option.some.inj h
     exact then_j ⟨x8, rfl, (hF.keep ⟨rfl, rfl, trivial⟩), hS⟩
end Go.Proofs.Ytangebngeeamoaa
