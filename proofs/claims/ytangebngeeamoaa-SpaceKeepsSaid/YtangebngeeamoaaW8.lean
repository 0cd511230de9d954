/- What calls of the Go functions come to. -/
import Derived.Test.YtangebngeeamoaaW7
set_option linter.unusedVariables false
set_option linter.unusedSimpArgs false
set_option maxRecDepth 100000
set_option maxHeartbeats 4000000
namespace Go.Proofs.Ytangebngeeamoaa
open Go.RowKit Go.Pod
theorem ok_law03_SpaceIs (k : Nat) {M : Nat → Prop} {w0 : World} {u0 : List TCube} {A0_0 : Option Addr} {c0_0 : Nat} {u1 : Arr 12} {o : Bool} (hS : St M w0 [] [] [fSl k_TCube A0_0 c0_0 u0] w0) (h : law03_SpaceIs k u0 u1 = some o) :
    Calls Try.prog 7 #[.slice A0_0 ((u0).length) c0_0, .agg (A12u64.enc u1).toArray] w0 fun e W' => ∃ v, e = .returned v ∧ (v = .bool (o) ∧ St M w0 [] [] [] W') := by
  unfold law03_SpaceIs at h
  refine calls_start (args := [.slice A0_0 ((u0).length) c0_0, .agg (A12u64.enc u1).toArray]) Try.func7 rfl rfl (Nat.le_of_ble_eq_true rfl) (fun a hF => ?_)
  refine wp_seq ?_
  refine wp_reg ?_
  refine sq_box hF hS rfl rfl (by decide) (fun b1 a W hF hS => ?_)
  refine sq_val (v_assign hF rfl) hF (by decide) (fun a hF => ?_)
  refine sq_nil ?_
  refine then_n ?_
  refine wp_seq ?_
  refine wp_seq ?_
  refine wp_reg ?_
  refine sq_val (v_move hF rfl) hF (by decide) (fun a hF => ?_)
  refine sq_val (v_len hF rfl pu29) hF (by decide) (fun a hF => ?_)
  refine sq_val (v_gtr hF rfl rfl) hF (by decide) (fun a hF => ?_)
  refine sq_nil ?_
  refine then_n ?_
  refine wp_if hF rfl (fun he2 => ?_) (fun he2 => ?_)
  ·
    replace h := ifT he2 h
    refine wp_seq ?_
    refine wp_reg ?_
    obtain ⟨x3, hx4, h⟩ := bindS h
    refine sq_call hF pc36 rfl (by decide) (ok_law03_answers k (hS.enter trivial) hx4) (fun v W hR a hF => ?_)
    obtain ⟨rfl, hT5⟩ := hR
    have hS := hS.grow hT5.below
    refine sq_val (v_assign hF rfl) hF (by decide) (fun a hF => ?_)
    refine sq_nil ?_
    refine then_n ?_
    refine wp_ret ?_
    refine then_r ?_
    obtain rfl := Option.some.inj h
    exact ret1 hF rfl (rv_tmp hF rfl) ⟨_, rfl, rfl, (hS.keep (List.nil_sublist _) (List.Sublist.refl _) trivial)⟩
  ·
    replace h := ifF he2 h
    refine wp_skip ?_
    refine then_n ?_
    refine wp_seq ?_
    refine wp_reg ?_
    refine sq_buildSlice (κ := k_TCube) (xs := []) (ys := ([] : List TCube)) hF hS rfl rfl rfl (Els.nil _ _ _) rfl psl29 pz26 rfl (by decide) (by decide) (by decide) (fun A6 c7 a W hF hS => ?_)
    refine sq_val (v_move hF rfl) hF (by decide) (fun a hF => ?_)
    obtain ⟨x10, hx11, h⟩ := bindS h
    refine sq_append (ys := u0) hF hS (i := 0) rfl rfl rfl (SlR.src (hS.fc (i := 0) rfl)) psl29 pb26 pz26 rfl (by decide) (by decide) hx11 (by decide) (fun A8 c9 a W hF hS => ?_)
    have hS := hS.freeze (i := 0) rfl (posB rfl)
    obtain ⟨x12, hx13, h⟩ := bindS h
    refine sq_call hF pc37 rfl (by decide) (ok_space_Lean k (hS.enter ⟨⟨0, rfl⟩, trivial⟩) hx13) (fun v W hR a hF => ?_)
    obtain ⟨A14, c15, rfl, hT16⟩ := hR
    have hS := hS.join hT16
    refine sq_val (v_assign hF rfl) hF (by decide) (fun a hF => ?_)
    refine sq_nil ?_
    refine then_n ?_
    refine wp_seq ?_
    refine wp_reg ?_
    refine sq_val (v_assign hF rfl) hF (by decide) (fun a hF => ?_)
    refine sq_nil ?_
    refine then_n ?_
    refine wp_seq ?_
    refine wp_seq ?_
    refine wp_reg ?_
    refine sq_val (v_assign hF rfl) hF (by decide) (fun a hF => ?_)
    refine sq_nil ?_
    refine then_n ?_
    obtain ⟨o22, h, hk23⟩ := bindS h
    refine wp_join (fun a W => ∃ (x21 : Bool), x21 = o22 ∧ FH 59 [(0, .slice A0_0 ((u0).length) c0_0), (3, .pointer (some (⟨b1, 0, none⟩))), (5, .slice A14 ((x12).length) c15), (6, .bool (x21))] a ∧ St M w0 [⟨b1, A12u64.enc u1, 24⟩] [⟨k_TCube, 26, A14, c15, x12⟩] [fSl k_TCube A0_0 c0_0 u0] W) (fun a W hJ => ?_) ?_
    ·
      obtain ⟨x21, rfl, hF, hS⟩ := hJ
      have h := hk23
      refine then_n ?_
      refine wp_seq ?_
      refine wp_reg ?_
      obtain ⟨x24, hx25, h⟩ := bindS h
      refine sq_call hF pc36 rfl (by decide) (ok_law03_answers k (hS.enter trivial) hx25) (fun v W hR a hF => ?_)
      obtain ⟨rfl, hT26⟩ := hR
      have hS := hS.grow hT26.below
      refine sq_val (v_move hF rfl) hF (by decide) (fun a hF => ?_)
      obtain ⟨x28, h, hk30⟩ := bindS h
      refine sq_cut 6 (fun a W => FH 59 [(0, .slice A0_0 ((u0).length) c0_0), (3, .pointer (some (⟨b1, 0, none⟩))), (5, .slice A14 ((x12).length) c15), (6, .bool (x21)), (38, .bool x28)] a ∧ St M w0 [⟨b1, A12u64.enc u1, 24⟩] [⟨k_TCube, 26, A14, c15, x12⟩] [fSl k_TCube A0_0 c0_0 u0] W) (fun a W hJ => ?_) ?_
      ·
        have h := hk30
        obtain ⟨hF, hS⟩ := hJ
        refine sq_val (v_move hF rfl) hF (by decide) (fun a hF => ?_)
        obtain ⟨x38, h, hk40⟩ := bindS h
        refine sq_cut 6 (fun a W => FH 59 [(0, .slice A0_0 ((u0).length) c0_0), (3, .pointer (some (⟨b1, 0, none⟩))), (5, .slice A14 ((x12).length) c15), (6, .bool (x21)), (45, .bool x38)] a ∧ St M w0 [⟨b1, A12u64.enc u1, 24⟩] [⟨k_TCube, 26, A14, c15, x12⟩] [fSl k_TCube A0_0 c0_0 u0] W) (fun a W hJ => ?_) ?_
        ·
          have h := hk40
          obtain ⟨hF, hS⟩ := hJ
          refine sq_val (v_move hF rfl) hF (by decide) (fun a hF => ?_)
          obtain ⟨x45, h, hk47⟩ := bindS h
          refine sq_cut 5 (fun a W => FH 59 [(3, .pointer (some (⟨b1, 0, none⟩))), (5, .slice A14 ((x12).length) c15), (6, .bool (x21)), (51, .bool x45)] a ∧ St M w0 [⟨b1, A12u64.enc u1, 24⟩] [⟨k_TCube, 26, A14, c15, x12⟩] [fSl k_TCube A0_0 c0_0 u0] W) (fun a W hJ => ?_) ?_
          ·
            have h := hk47
            obtain ⟨hF, hS⟩ := hJ
            refine sq_val (v_move hF rfl) hF (by decide) (fun a hF => ?_)
            obtain ⟨x57, h, hk59⟩ := bindS h
            refine sq_cut 6 (fun a W => FH 59 [(58, .bool x57)] a ∧ St M w0 [⟨b1, A12u64.enc u1, 24⟩] [⟨k_TCube, 26, A14, c15, x12⟩] [fSl k_TCube A0_0 c0_0 u0] W) (fun a W hJ => ?_) ?_
            ·
              have h := hk59
              obtain ⟨hF, hS⟩ := hJ
              refine sq_val (v_assign hF rfl) hF (by decide) (fun a hF => ?_)
              refine sq_nil ?_
              refine then_n ?_
              refine wp_ret ?_
              obtain rfl := Option.some.inj h
              exact ret1 hF rfl (rv_tmp hF rfl) ⟨_, rfl, rfl, (hS.keep (List.nil_sublist _) (List.nil_sublist _) trivial)⟩
            ·
              by_cases he56 : x45 = true
              ·
                replace h := ifT he56 h
                refine sq_yes hF rfl rfl he56 ?_
                refine sq_val (v_move hF rfl) hF (by decide) (fun a hF => ?_)
                refine sq_yes hF rfl rfl he56 ?_
                refine sq_val (v_load (cs := A12u64.enc u1) hF rfl pa24 ps24 (hS.bc (i := 0) rfl)) hF (by decide) (fun a hF => ?_)
                refine sq_yes hF rfl rfl he56 ?_
                obtain ⟨x60, hx61, h⟩ := bindS h
                refine sq_call hF pc40 rfl (by decide) (ok_space_Has k ((hS.freeze (i := 0) rfl (posB rfl)).enter ⟨⟨0, rfl⟩, trivial⟩) hx61) (fun v W hR a hF => ?_)
                obtain ⟨rfl, hT62⟩ := hR
                have hS := hS.grow hT62.below
                refine sq_yes hF rfl rfl he56 ?_
                refine sq_val (v_move hF rfl) hF (by decide) (fun a hF => ?_)
                refine sq_yes hF rfl rfl he56 ?_
                refine sq_val (v_eqlB hF rfl rfl pu4) hF (by decide) (fun a hF => ?_)
                refine sq_val (v_pick_t hF rfl he56 rfl) hF (by decide) (fun a hF => ?_)
                obtain rfl := Option.some.inj h
                exact sq_nil (then_j ⟨(hF.keep ⟨rfl, trivial⟩), hS⟩)
              ·
                have he56 : x45 = false := nB he56
                replace h := ifF he56 h
                refine sq_no hF rfl rfl he56 (by rintro x ⟨⟩; decide) (fun a hF => ?_)
                refine sq_no hF rfl rfl he56 (by rintro x ⟨⟩; decide) (fun a hF => ?_)
                refine sq_no hF rfl rfl he56 (by rintro x ⟨⟩; decide) (fun a hF => ?_)
                refine sq_no hF rfl rfl he56 (by rintro x ⟨⟩; decide) (fun a hF => ?_)
                refine sq_no hF rfl rfl he56 (by rintro x ⟨⟩; decide) (fun a hF => ?_)
                refine sq_val (v_pick_f hF rfl he56 rfl) hF (by decide) (fun a hF => ?_)
                obtain rfl := Option.some.inj h
                exact sq_nil (then_j ⟨(hF.keep ⟨rfl, trivial⟩), hS⟩)
          ·
            by_cases he44 : x38 = true
            ·
              replace h := ifT he44 h
              refine sq_yes hF rfl rfl he44 ?_
              refine sq_val (v_move hF rfl) hF (by decide) (fun a hF => ?_)
              refine sq_yes hF rfl rfl he44 ?_
              refine sq_val (v_move hF rfl) hF (by decide) (fun a hF => ?_)
              refine sq_yes hF rfl rfl he44 ?_
              obtain ⟨x48, hx49, h⟩ := bindS h
              refine sq_call hF pc41 rfl (by decide) (ok_ref01_Lean k (hS.enter ⟨⟨0, rfl⟩, trivial⟩) hx49) (fun v W hR a hF => ?_)
              obtain ⟨A50, c51, rfl, hT52⟩ := hR
              have hS := hS.join hT52
              refine sq_yes hF rfl rfl he44 ?_
              obtain ⟨x53, hx54, h⟩ := bindS h
              refine sq_call hF pc21 rfl (by decide) (ok_ref01_SameCubes k (((hS.freeze (i := 1) rfl (posB rfl)).freeze (i := 0) rfl (posB rfl)).enter ⟨⟨1, rfl⟩, ⟨0, rfl⟩, trivial⟩) hx54) (fun v W hR a hF => ?_)
              obtain ⟨rfl, hT55⟩ := hR
              have hS := hS.grow hT55.below
              refine sq_val (v_pick_t hF rfl he44 rfl) hF (by decide) (fun a hF => ?_)
              obtain rfl := Option.some.inj h
              exact sq_nil (then_j ⟨(hF.keep ⟨rfl, rfl, rfl, rfl, trivial⟩), (hS.keep (List.Sublist.refl _) (.cons _ (List.Sublist.refl _)) ⟨⟨0, rfl⟩, trivial⟩)⟩)
            ·
              have he44 : x38 = false := nB he44
              replace h := ifF he44 h
              refine sq_no hF rfl rfl he44 (by rintro x ⟨⟩; decide) (fun a hF => ?_)
              refine sq_no hF rfl rfl he44 (by rintro x ⟨⟩; decide) (fun a hF => ?_)
              refine sq_no hF rfl rfl he44 (by rintro x ⟨⟩; decide) (fun a hF => ?_)
              refine sq_no hF rfl rfl he44 (by rintro x ⟨⟩; decide) (fun a hF => ?_)
              refine sq_val (v_pick_f hF rfl he44 rfl) hF (by decide) (fun a hF => ?_)
              obtain rfl := Option.some.inj h
              exact sq_nil (then_j ⟨(hF.keep ⟨rfl, rfl, rfl, rfl, trivial⟩), hS⟩)
        ·
          by_cases he37 : x28 = true
          ·
            replace h := ifT he37 h
            refine sq_yes hF rfl rfl he37 ?_
            refine sq_val (v_move hF rfl) hF (by decide) (fun a hF => ?_)
            refine sq_yes hF rfl rfl he37 ?_
            refine sq_val (v_load (cs := A12u64.enc u1) hF rfl pa24 ps24 (hS.bc (i := 0) rfl)) hF (by decide) (fun a hF => ?_)
            refine sq_yes hF rfl rfl he37 ?_
            obtain ⟨x41, hx42, h⟩ := bindS h
            refine sq_call hF pc40 rfl (by decide) (ok_space_Has k (hS.enter ⟨⟨0, rfl⟩, trivial⟩) hx42) (fun v W hR a hF => ?_)
            obtain ⟨rfl, hT43⟩ := hR
            have hS := hS.grow hT43.below
            refine sq_yes hF rfl rfl he37 ?_
            refine sq_val (v_move hF rfl) hF (by decide) (fun a hF => ?_)
            refine sq_yes hF rfl rfl he37 ?_
            refine sq_val (v_eqlB hF rfl rfl pu4) hF (by decide) (fun a hF => ?_)
            refine sq_val (v_pick_t hF rfl he37 rfl) hF (by decide) (fun a hF => ?_)
            obtain rfl := Option.some.inj h
            exact sq_nil (then_j ⟨(hF.keep ⟨rfl, rfl, rfl, rfl, rfl, trivial⟩), hS⟩)
          ·
            have he37 : x28 = false := nB he37
            replace h := ifF he37 h
            refine sq_no hF rfl rfl he37 (by rintro x ⟨⟩; decide) (fun a hF => ?_)
            refine sq_no hF rfl rfl he37 (by rintro x ⟨⟩; decide) (fun a hF => ?_)
            refine sq_no hF rfl rfl he37 (by rintro x ⟨⟩; decide) (fun a hF => ?_)
            refine sq_no hF rfl rfl he37 (by rintro x ⟨⟩; decide) (fun a hF => ?_)
            refine sq_no hF rfl rfl he37 (by rintro x ⟨⟩; decide) (fun a hF => ?_)
            refine sq_val (v_pick_f hF rfl he37 rfl) hF (by decide) (fun a hF => ?_)
            obtain rfl := Option.some.inj h
            exact sq_nil (then_j ⟨(hF.keep ⟨rfl, rfl, rfl, rfl, rfl, trivial⟩), hS⟩)
      ·
        by_cases he27 : x24 = true
        ·
          replace h := ifT he27 h
          refine sq_yes hF rfl rfl he27 ?_
          refine sq_val (v_move hF rfl) hF (by decide) (fun a hF => ?_)
          refine sq_yes hF rfl rfl he27 ?_
          obtain ⟨x31, hx32, h⟩ := bindS h
          refine sq_call hF pc38 rfl (by decide) (ok_space_Sound k (hS.enter ⟨⟨0, rfl⟩, trivial⟩) hx32) (fun v W hR a hF => ?_)
          obtain ⟨rfl, hT33⟩ := hR
          have hS := hS.grow hT33.below
          refine sq_yes hF rfl rfl he27 ?_
          refine sq_val (v_move hF rfl) hF (by decide) (fun a hF => ?_)
          refine sq_yes hF rfl rfl he27 ?_
          obtain ⟨x34, hx35, h⟩ := bindS h
          refine sq_call hF pc39 rfl (by decide) (ok_ref01_Space k (hS.enter ⟨⟨0, rfl⟩, trivial⟩) hx35) (fun v W hR a hF => ?_)
          obtain ⟨rfl, hT36⟩ := hR
          have hS := hS.grow hT36.below
          refine sq_yes hF rfl rfl he27 ?_
          refine sq_val (v_eqlB hF rfl rfl pu4) hF (by decide) (fun a hF => ?_)
          refine sq_val (v_pick_t hF rfl he27 rfl) hF (by decide) (fun a hF => ?_)
          obtain rfl := Option.some.inj h
          exact sq_nil (then_j ⟨(hF.keep ⟨rfl, rfl, rfl, rfl, rfl, trivial⟩), hS⟩)
        ·
          have he27 : x24 = false := nB he27
          replace h := ifF he27 h
          refine sq_no hF rfl rfl he27 (by rintro x ⟨⟩; decide) (fun a hF => ?_)
          refine sq_no hF rfl rfl he27 (by rintro x ⟨⟩; decide) (fun a hF => ?_)
          refine sq_no hF rfl rfl he27 (by rintro x ⟨⟩; decide) (fun a hF => ?_)
          refine sq_no hF rfl rfl he27 (by rintro x ⟨⟩; decide) (fun a hF => ?_)
          refine sq_no hF rfl rfl he27 (by rintro x ⟨⟩; decide) (fun a hF => ?_)
          refine sq_val (v_pick_f hF rfl he27 rfl) hF (by decide) (fun a hF => ?_)
          obtain rfl := Option.some.inj h
          exact sq_nil (then_j ⟨(hF.keep ⟨rfl, rfl, rfl, rfl, rfl, trivial⟩), hS⟩)
    ·
      refine wp_block ?_
      refine wp_loop_fuel (I := fun m a W => ∃ (x19 : Bool) (x20 : Int), FH 59 [(0, .slice A0_0 ((u0).length) c0_0), (3, .pointer (some (⟨b1, 0, none⟩))), (5, .slice A14 ((x12).length) c15), (6, .bool (x19)), (7, .int .i64 (x20))] a ∧ St M w0 [⟨b1, A12u64.enc u1, 24⟩] [⟨k_TCube, 26, A14, c15, x12⟩] [fSl k_TCube A0_0 c0_0 u0] W ∧ (law03_SpaceIs.l0 k u0 u1 m x19 x20) = some o22) ?_ (k := k) ⟨false, 0, (hF.keep ⟨rfl, rfl, rfl, rfl, rfl, trivial⟩), (hS.keep (List.Sublist.refl _) (List.Sublist.refl _) ⟨⟨1, rfl⟩, trivial⟩), h⟩
      rintro m63 a W ⟨x19, x20, hF, hS, h⟩
      cases m63 with
      | zero => cases h
      | succ m63 =>
        rw [law03_SpaceIs.l0] at h
        refine wp_seq ?_
        refine wp_seq ?_
        refine wp_reg ?_
        refine sq_val (v_move hF rfl) hF (by decide) (fun a hF => ?_)
        refine sq_val (v_move hF rfl) hF (by decide) (fun a hF => ?_)
        refine sq_val (v_len hF rfl pu29) hF (by decide) (fun a hF => ?_)
        refine sq_val (v_lss hF rfl rfl) hF (by decide) (fun a hF => ?_)
        refine sq_nil ?_
        refine then_n ?_
        refine wp_if hF rfl (fun he64 => ?_) (fun he64 => ?_)
        ·
          replace h := ifT he64 h
          refine wp_skip ?_
          refine then_n ?_
          refine wp_seq ?_
          refine wp_block ?_
          refine wp_quiet rfl (by kernel_rfl) hS ?_
          refine qt_val (fun W hC => (v_move hF rfl)) hF (by decide) (fun a hF => ?_)
          refine qt_val (fun W hC => (v_move hF rfl)) hF (by decide) (fun a hF => ?_)
          obtain ⟨x66, h, hk68⟩ := bindS h
          refine qt_cut 7 (fun a => FH 59 [(0, .slice A0_0 ((u0).length) c0_0), (3, .pointer (some (⟨b1, 0, none⟩))), (5, .slice A14 ((x12).length) c15), (7, .int .i64 (x20)), (30, .bool x66)] a) (fun a hF => ?_) ?_
          ·
            have h := hk68
            refine qt_val (fun W hC => (v_assign hF rfl)) hF (by decide) (fun a hF => ?_)
            refine qt_nil ?_
            intro W hC
            have hS := hC.2
            refine blk_n ?_
            refine then_n ?_
            refine wp_reg ?_
            refine sq_val (v_move hF rfl) hF (by decide) (fun a hF => ?_)
            refine sq_val (v_add hF rfl rfl) hF (by decide) (fun a hF => ?_)
            refine sq_val (v_assign hF rfl) hF (by decide) (fun a hF => ?_)
            refine sq_nil ?_
            exact then_j ⟨m63, Nat.lt_succ_self _, x66, (IntKind.i64.wrap (x20 + 1)), (hF.keep ⟨rfl, rfl, rfl, rfl, rfl, trivial⟩), hS, h⟩
          ·
            by_cases he65 : x19 = true
            ·
              replace h := ifT he65 h
              refine qt_no hF rfl rfl he65 (by decide) (fun a hF => ?_)
              refine qt_no hF rfl rfl he65 (by decide) (fun a hF => ?_)
              refine qt_no hF rfl rfl he65 (by decide) (fun a hF => ?_)
              refine qt_no hF rfl rfl he65 (by decide) (fun a hF => ?_)
              refine qt_no hF rfl rfl he65 (by decide) (fun a hF => ?_)
              refine qt_no hF rfl rfl he65 (by decide) (fun a hF => ?_)
              refine qt_val (fun W hC => (v_pick_t hF rfl he65 rfl)) hF (by decide) (fun a hF => ?_)
              obtain rfl := Option.some.inj h
              exact qt_nil (hF.keep ⟨rfl, rfl, rfl, rfl, rfl, trivial⟩)
            ·
              have he65 : x19 = false := nB he65
              replace h := ifF he65 h
              refine qt_yes hF rfl rfl he65 ?_
              refine qt_val (fun W hC => (v_move hF rfl)) hF (by decide) (fun a hF => ?_)
              refine qt_yes hF rfl rfl he65 ?_
              refine qt_val (fun W hC => (v_move hF rfl)) hF (by decide) (fun a hF => ?_)
              refine qt_yes hF rfl rfl he65 ?_
              obtain ⟨x69, hx70, h⟩ := bindS h
              obtain ⟨p71, cs72, hA73, hat74⟩ := SlR.at (hS.fc (i := 0) rfl) hx70
              obtain rfl : cs72 = TCube.enc x69 := hat74.2.2.2
              refine qt_val (fun W hC => (v_idx hF rfl hA73 rfl psl29 hx70)) hF (by decide) (fun a hF => ?_)
              refine qt_yes hF rfl rfl he65 ?_
              refine qt_val (fun W hC => (v_load (cs := TCube.enc x69) hF rfl pa26 ps26 (hat74.2.2.1.grow hC.1))) hF (by decide) (fun a hF => ?_)
              refine qt_yes hF rfl rfl he65 ?_
              refine qt_val (fun W hC => (v_load (cs := A12u64.enc u1) hF rfl pa24 ps24 (hC.2.bc (i := 0) rfl))) hF (by decide) (fun a hF => ?_)
              refine qt_yes hF rfl rfl he65 ?_
              obtain ⟨x75, hx76, h⟩ := bindS h
              refine qt_call hF pc16 rfl (by decide) (fun W hC => q_of hC (ok_ref01_Has k (hC.2.enter trivial) hx76)) (fun a hF => ?_)
              refine qt_val (fun W hC => (v_pick_f hF rfl he65 rfl)) hF (by decide) (fun a hF => ?_)
              obtain rfl := Option.some.inj h
              exact qt_nil (hF.keep ⟨rfl, rfl, rfl, rfl, rfl, trivial⟩)
        ·
          replace h := ifF he64 h
          refine wp_exit ?_
          refine then_x ?_
          refine then_x ?_
          refine blk_hit ?_
          obtain rfl := Option.some.inj h
          exact then_j ⟨x19, rfl, (hF.keep ⟨rfl, rfl, rfl, rfl, trivial⟩), hS⟩

theorem ok_law03_few {M : Nat → Prop} {w0 : World} {u0 : List TCube} {A0_0 : Option Addr} {c0_0 : Nat} {o : Bool} (hS : St M w0 [] [] [fSl k_TCube A0_0 c0_0 u0] w0) (h : law03_few u0 = some o) :
    Calls Try.prog 42 #[.slice A0_0 ((u0).length) c0_0] w0 fun e W' => ∃ v, e = .returned v ∧ (v = .bool (o) ∧ St M w0 [] [] [] W') := by
  unfold law03_few at h
  refine calls_start (args := [.slice A0_0 ((u0).length) c0_0]) Try.func42 rfl rfl (Nat.le_of_ble_eq_true rfl) (fun a hF => ?_)
  refine wp_seq ?_
  refine wp_reg ?_
  refine sq_val (v_assign hF rfl) hF (by decide) (fun a hF => ?_)
  refine sq_nil ?_
  refine then_n ?_
  refine wp_seq ?_
  refine wp_reg ?_
  refine sq_val (v_move hF rfl) hF (by decide) (fun a hF => ?_)
  refine sq_val (v_len hF rfl pu29) hF (by decide) (fun a hF => ?_)
  refine sq_val (v_leq hF rfl rfl) hF (by decide) (fun a hF => ?_)
  refine sq_val (v_assign hF rfl) hF (by decide) (fun a hF => ?_)
  refine sq_nil ?_
  refine then_n ?_
  refine wp_ret ?_
  obtain rfl := Option.some.inj h
  exact ret1 hF rfl (rv_tmp hF rfl) ⟨_, rfl, rfl, (hS.keep (List.Sublist.refl _) (List.Sublist.refl _) trivial)⟩

theorem ok_space_Touch_1 (k : Nat) {M : Nat → Prop} {w0 : World} {u0 : TCube} {y0 : TCube} {b0_ : Nat} {o : Bool} (hS : St M w0 [] [] [fBox b0_ (TCube.enc y0) 26] w0) (h : space_Touch_1 k u0 y0 = some o) :
    Calls Try.prog 104 #[.agg (TCube.enc u0).toArray, .pointer (some (⟨b0_, 0, none⟩))] w0 fun e W' => ∃ v, e = .returned v ∧ (v = .bool (o) ∧ St M w0 [] [] [] W') := by
  unfold space_Touch_1 at h
  refine calls_start (args := [.agg (TCube.enc u0).toArray, .pointer (some (⟨b0_, 0, none⟩))]) Try.func104 rfl rfl (Nat.le_of_ble_eq_true rfl) (fun a hF => ?_)
  refine wp_seq ?_
  refine wp_reg ?_
  refine sq_box hF hS rfl rfl (by decide) (fun b1 a W hF hS => ?_)
  refine sq_val (v_assign hF rfl) hF (by decide) (fun a hF => ?_)
  refine sq_nil ?_
  refine then_n ?_
  refine wp_seq ?_
  refine wp_reg ?_
  refine sq_val (v_load (cs := TCube.enc y0) hF rfl pa26 ps26 (hS.fbc (i := 0) rfl)) hF (by decide) (fun a hF => ?_)
  refine sq_val (v_load (cs := TCube.enc u0) hF rfl pa26 ps26 (hS.bc (i := 0) rfl)) hF (by decide) (fun a hF => ?_)
  obtain ⟨x2, hx3, h⟩ := bindS h
  refine sq_call hF pc12 rfl (by decide) (ok_cube_Meet k (hS.enter trivial) hx3) (fun v W hR a hF => ?_)
  obtain ⟨rfl, hT4⟩ := hR
  have hS := hS.grow hT4.below
  refine sq_val (v_move hF rfl) hF (by decide) (fun a hF => ?_)
  refine sq_val (v_extract hF rfl rfl) hF (by decide) (fun a hF => ?_)
  refine sq_val (v_extract hF rfl rfl) hF (by decide) (fun a hF => ?_)
  refine sq_alloc hF hS pz26 rfl (by decide) (fun b5 a W hF hS => ?_)
  refine sq_store (o := 0) (vs := TCube.enc x2.1) (cs' := TCube.enc x2.1) hF hS rfl rfl (i := 0) rfl rfl rfl ps26 (TCube.enc_one _) (Nat.le_of_ble_eq_true rfl) rfl (fun W hS => ?_)
  refine sq_val (v_assign hF rfl) hF (by decide) (fun a hF => ?_)
  refine sq_nil ?_
  refine then_n ?_
  refine wp_seq ?_
  refine wp_reg ?_
  refine sq_val (v_move hF rfl) hF (by decide) (fun a hF => ?_)
  refine sq_val (v_assign hF rfl) hF (by decide) (fun a hF => ?_)
  refine sq_nil ?_
  refine then_n ?_
  refine wp_ret ?_
  obtain rfl := Option.some.inj h
  exact ret1 hF rfl (rv_tmp hF rfl) ⟨_, rfl, rfl, (hS.keep (List.nil_sublist _) (List.Sublist.refl _) trivial)⟩

theorem ok_space_Touch (k : Nat) {M : Nat → Prop} {w0 : World} {u0 : List TCube} {A0_0 : Option Addr} {c0_0 : Nat} {u1 : List TCube} {A1_0 : Option Addr} {c1_0 : Nat} {o : Bool} (hS : St M w0 [] [] [fSl k_TCube A0_0 c0_0 u0, fSl k_TCube A1_0 c1_0 u1] w0) (h : space_Touch k u0 u1 = some o) :
    Calls Try.prog 45 #[.slice A0_0 ((u0).length) c0_0, .slice A1_0 ((u1).length) c1_0] w0 fun e W' => ∃ v, e = .returned v ∧ (v = .bool (o) ∧ St M w0 [] [] [] W') := by
  unfold space_Touch at h
  refine calls_start (args := [.slice A0_0 ((u0).length) c0_0, .slice A1_0 ((u1).length) c1_0]) Try.func45 rfl rfl (Nat.le_of_ble_eq_true rfl) (fun a hF => ?_)
  refine wp_seq ?_
  refine wp_reg ?_
  refine sq_val (v_assign hF rfl) hF (by decide) (fun a hF => ?_)
  refine sq_nil ?_
  refine then_n ?_
  refine wp_seq ?_
  refine wp_seq ?_
  refine wp_reg ?_
  refine sq_val (v_move hF rfl) hF (by decide) (fun a hF => ?_)
  refine sq_val (v_len hF rfl pu29) hF (by decide) (fun a hF => ?_)
  refine sq_val (v_move hF rfl) hF (by decide) (fun a hF => ?_)
  refine sq_nil ?_
  refine then_n ?_
  obtain ⟨o3, h, hk4⟩ := bindS h
  refine wp_join (fun a W => Lo.brk () = o3 ∧ FH 19 [] a ∧ St M w0 [] [] [] W) (fun a W hJ => ?_) ?_
  ·
    obtain ⟨rfl, hF, hS⟩ := hJ
    have h := hk4
    dsimp only at h
    refine then_n ?_
    refine wp_seq ?_
    refine wp_reg ?_
    refine sq_val (v_assign hF rfl) hF (by decide) (fun a hF => ?_)
    refine sq_nil ?_
    refine then_n ?_
    refine wp_ret ?_
    obtain rfl := Option.some.inj h
    exact ret1 hF rfl (rv_tmp hF rfl) ⟨_, rfl, rfl, hS⟩
  ·
    refine wp_block ?_
    refine wp_loop_fuel (I := fun m a W => ∃ (x2 : Int), FH 19 [(1, .slice A1_0 ((u1).length) c1_0), (8, .slice A0_0 ((u0).length) c0_0), (9, .int .i64 ((u0.length : Int))), (10, .int .i64 (x2))] a ∧ St M w0 [] [] [fSl k_TCube A0_0 c0_0 u0, fSl k_TCube A1_0 c1_0 u1] W ∧ (space_Touch.l0 k u0 u1 m x2) = some o3) ?_ (k := k) ⟨0, (hF.keep ⟨rfl, rfl, rfl, rfl, trivial⟩), hS, h⟩
    rintro m5 a W ⟨x2, hF, hS, h⟩
    cases m5 with
    | zero => cases h
    | succ m5 =>
      rw [space_Touch.l0] at h
      refine wp_seq ?_
      refine wp_reg ?_
      refine sq_val (v_lss hF rfl rfl) hF (by decide) (fun a hF => ?_)
      refine sq_nil ?_
      refine then_n ?_
      refine wp_seq ?_
      refine wp_if hF rfl (fun he6 => ?_) (fun he6 => ?_)
      ·
        replace h := ifT he6 h
        refine wp_skip ?_
        refine then_n ?_
        refine wp_seq ?_
        refine wp_block ?_
        refine wp_seq ?_
        refine wp_reg ?_
        obtain ⟨x7, hx8, h⟩ := bindS h
        obtain ⟨p9, cs10, hA11, hat12⟩ := SlR.at (hS.fc (i := 0) rfl) hx8
        obtain rfl : cs10 = TCube.enc x7 := hat12.2.2.2
        have hS := hS.addFact (f := fAt k_TCube (p9.add (x2.toNat * 24)) (TCube.enc x7) x7) hat12
        refine sq_val (v_idx hF rfl hA11 rfl psl29 hx8) hF (by decide) (fun a hF => ?_)
        refine sq_val (v_load (cs := TCube.enc x7) hF rfl pa26 ps26 (hS.pc (i := 0) rfl)) hF (by decide) (fun a hF => ?_)
        refine sq_alloc hF hS pz26 rfl (by decide) (fun b13 a W hF hS => ?_)
        refine sq_store (o := 0) (vs := TCube.enc x7) (cs' := TCube.enc x7) hF hS rfl rfl (i := 0) rfl rfl rfl ps26 (TCube.enc_one _) (Nat.le_of_ble_eq_true rfl) rfl (fun W hS => ?_)
        refine sq_nil ?_
        refine then_n ?_
        refine wp_seq ?_
        refine wp_reg ?_
        have hS := hS.freezeBox (i := 0) rfl
        have hS := hS.addFact (f := fFn1 Try.prog 104 ([.pointer (some (⟨b13, 0, none⟩))]) k_TCube true (fun (a0 : TCube) => space_Touch_1 k a0 x7) (fun y => .bool y)) ⟨pc104, fun M' W' hs hv cs a0 y hR hp => by obtain rfl := hR; exact fromSt (ok_space_Touch_1 k (St.ofAll hv ⟨((fBox b13 (TCube.enc x7) 26).st (hS.fc (i := 0) rfl) hs), trivial⟩) hp)⟩
        refine sq_val (v_makeFunc (xs := [.tmp 6]) (vs := [.pointer (some (⟨b13, 0, none⟩))]) hF rfl) hF (by decide) (fun a hF => ?_)
        refine sq_val (v_assign hF rfl) hF (by decide) (fun a hF => ?_)
        refine sq_nil ?_
        refine then_n ?_
        refine wp_seq ?_
        refine wp_reg ?_
        refine sq_val (v_move hF rfl) hF (by decide) (fun a hF => ?_)
        refine sq_val (v_move hF rfl) hF (by decide) (fun a hF => ?_)
        obtain ⟨x14, hx15, h⟩ := bindS h
        refine sq_call hF pc99 rfl (by decide) (ok_slices_ContainsFunc_Cube k (hS.enter ⟨⟨4, rfl⟩, ⟨0, rfl⟩, trivial⟩) hx15) (fun v W hR a hF => ?_)
        obtain ⟨rfl, hT16⟩ := hR
        have hS := hS.grow hT16.below
        refine sq_nil ?_
        refine then_n ?_
        refine wp_if hF rfl (fun he17 => ?_) (fun he17 => ?_)
        ·
          replace h := ifT he17 h
          refine wp_seq ?_
          refine wp_reg ?_
          refine sq_val (v_assign hF rfl) hF (by decide) (fun a hF => ?_)
          refine sq_nil ?_
          refine then_n ?_
          refine wp_ret ?_
          refine blk_r ?_
          refine then_r ?_
          refine then_r ?_
          refine blk_r ?_
          refine then_r ?_
          refine then_r ?_
          obtain rfl := Option.some.inj h
          have h := hk4
          dsimp only at h
          obtain rfl := Option.some.inj h
          exact ret1 hF rfl (rv_tmp hF rfl) ⟨_, rfl, rfl, (hS.keep (List.Sublist.refl _) (List.Sublist.refl _) trivial)⟩
        ·
          replace h := ifF he17 h
          refine wp_skip ?_
          refine blk_n ?_
          refine then_n ?_
          refine wp_reg ?_
          refine sq_val (v_add hF rfl rfl) hF (by decide) (fun a hF => ?_)
          refine sq_val (v_move hF rfl) hF (by decide) (fun a hF => ?_)
          refine sq_nil ?_
          exact then_j ⟨m5, Nat.lt_succ_self _, (IntKind.i64.wrap (x2 + 1)), (hF.keep ⟨rfl, rfl, rfl, rfl, trivial⟩), (hS.keep (List.Sublist.refl _) (List.Sublist.refl _) ⟨⟨3, rfl⟩, ⟨4, rfl⟩, trivial⟩), h⟩
      ·
        replace h := ifF he6 h
        refine wp_exit ?_
        refine then_x ?_
        refine then_x ?_
        refine blk_hit ?_
        obtain rfl := Option.some.inj h
        exact then_j ⟨rfl, (hF.keep trivial), (hS.keep (List.Sublist.refl _) (List.Sublist.refl _) trivial)⟩

theorem ok_law03_SpaceAll (k : Nat) {M : Nat → Prop} {w0 : World} {u0 : List TCube} {A0_0 : Option Addr} {c0_0 : Nat} {o : Bool} (hS : St M w0 [] [] [fSl k_TCube A0_0 c0_0 u0] w0) (h : law03_SpaceAll k u0 = some o) :
    Calls Try.prog 8 #[.slice A0_0 ((u0).length) c0_0] w0 fun e W' => ∃ v, e = .returned v ∧ (v = .bool (o) ∧ St M w0 [] [] [] W') := by
  unfold law03_SpaceAll at h
  refine calls_start (args := [.slice A0_0 ((u0).length) c0_0]) Try.func8 rfl rfl (Nat.le_of_ble_eq_true rfl) (fun a hF => ?_)
  refine wp_seq ?_
  refine wp_reg ?_
  refine sq_val (v_assign hF rfl) hF (by decide) (fun a hF => ?_)
  refine sq_nil ?_
  refine then_n ?_
  refine wp_seq ?_
  refine wp_seq ?_
  refine wp_reg ?_
  refine sq_val (v_move hF rfl) hF (by decide) (fun a hF => ?_)
  obtain ⟨x1, hx2, h⟩ := bindS h
  refine sq_call hF pc42 rfl (by decide) (ok_law03_few (hS.enter ⟨⟨0, rfl⟩, trivial⟩) hx2) (fun v W hR a hF => ?_)
  obtain ⟨rfl, hT3⟩ := hR
  have hS := hS.grow hT3.below
  refine sq_val (v_not hF rfl) hF (by decide) (fun a hF => ?_)
  refine sq_val (v_move hF rfl) hF (by decide) (fun a hF => ?_)
  obtain ⟨x5, h, hk7⟩ := bindS h
  refine sq_cut 4 (fun a W => FH 59 [(0, .slice A0_0 ((u0).length) c0_0), (14, .bool x5)] a ∧ St M w0 [] [] [fSl k_TCube A0_0 c0_0 u0] W) (fun a W hJ => ?_) ?_
  ·
    have h := hk7
    obtain ⟨hF, hS⟩ := hJ
    refine sq_nil ?_
    refine then_n ?_
    refine wp_if hF rfl (fun he11 => ?_) (fun he11 => ?_)
    ·
      replace h := ifT he11 h
      refine wp_seq ?_
      refine wp_reg ?_
      obtain ⟨x12, hx13, h⟩ := bindS h
      refine sq_call hF pc36 rfl (by decide) (ok_law03_answers k (hS.enter trivial) hx13) (fun v W hR a hF => ?_)
      obtain ⟨rfl, hT14⟩ := hR
      have hS := hS.grow hT14.below
      refine sq_val (v_assign hF rfl) hF (by decide) (fun a hF => ?_)
      refine sq_nil ?_
      refine then_n ?_
      refine wp_ret ?_
      refine then_r ?_
      obtain rfl := Option.some.inj h
      exact ret1 hF rfl (rv_tmp hF rfl) ⟨_, rfl, rfl, (hS.keep (List.Sublist.refl _) (List.Sublist.refl _) trivial)⟩
    ·
      replace h := ifF he11 h
      refine wp_skip ?_
      refine then_n ?_
      refine wp_seq ?_
      refine wp_reg ?_
      refine sq_val (v_build (parts := []) (out := TCube.enc TCube.zero) hF rfl rfl pz26 rfl pp26 rfl) hF (by decide) (fun a hF => ?_)
      refine sq_buildSlice (κ := k_TCube) (xs := [.tmp 17]) (ys := [TCube.zero]) hF hS rfl rfl rfl (Els.cons rfl (Els.nil _ _ _)) rfl psl29 pz26 rfl (by decide) (by decide) (by decide) (fun A15 c16 a W hF hS => ?_)
      refine sq_val (v_move hF rfl) hF (by decide) (fun a hF => ?_)
      have hS := hS.freeze (i := 0) rfl (posB rfl)
      obtain ⟨x17, hx18, h⟩ := bindS h
      refine sq_call hF pc43 rfl (by decide) (ok_space_Less k (hS.enter ⟨⟨0, rfl⟩, ⟨1, rfl⟩, trivial⟩) hx18) (fun v W hR a hF => ?_)
      obtain ⟨A19, c20, rfl, hT21⟩ := hR
      have hS := hS.join hT21
      refine sq_val (v_move hF rfl) hF (by decide) (fun a hF => ?_)
      refine sq_val (v_extract hF rfl rfl) hF (by decide) (fun a hF => ?_)
      refine sq_val (v_extract hF rfl rfl) hF (by decide) (fun a hF => ?_)
      refine sq_val (v_assign hF rfl) hF (by decide) (fun a hF => ?_)
      refine sq_val (v_assign hF rfl) hF (by decide) (fun a hF => ?_)
      refine sq_nil ?_
      refine then_n ?_
      refine wp_seq ?_
      refine wp_seq ?_
      refine wp_reg ?_
      refine sq_val (v_move hF rfl) hF (by decide) (fun a hF => ?_)
      refine sq_val (v_neq hF rfl rfl) hF (by decide) (fun a hF => ?_)
      refine sq_val (v_move hF rfl) hF (by decide) (fun a hF => ?_)
      refine sq_cut 7 (fun a W => FH 59 [(0, .slice A0_0 ((u0).length) c0_0), (3, .slice A19 ((x17.1).length) c20), (32, .bool ((x17.2 != 0) || (decide (64 < (IntKind.i64.wrap ((x17.1.length : Int) + (u0.length : Int)))))))] a ∧ St M w0 [] [⟨k_TCube, 26, A19, c20, x17.1⟩] [fSl k_TCube A15 c16 ([TCube.zero]), fSl k_TCube A0_0 c0_0 u0] W) (fun a W hJ => ?_) ?_
      ·
        obtain ⟨hF, hS⟩ := hJ
        refine sq_nil ?_
        refine then_n ?_
        refine wp_if hF rfl (fun he23 => ?_) (fun he23 => ?_)
        ·
          replace h := ifT he23 h
          refine wp_seq ?_
          refine wp_reg ?_
          obtain ⟨x24, hx25, h⟩ := bindS h
          refine sq_call hF pc36 rfl (by decide) (ok_law03_answers k (hS.enter trivial) hx25) (fun v W hR a hF => ?_)
          obtain ⟨rfl, hT26⟩ := hR
          have hS := hS.grow hT26.below
          refine sq_val (v_assign hF rfl) hF (by decide) (fun a hF => ?_)
          refine sq_nil ?_
          refine then_n ?_
          refine wp_ret ?_
          refine then_r ?_
          obtain rfl := Option.some.inj h
          exact ret1 hF rfl (rv_tmp hF rfl) ⟨_, rfl, rfl, (hS.keep (List.Sublist.refl _) (List.nil_sublist _) trivial)⟩
        ·
          replace h := ifF he23 h
          refine wp_skip ?_
          refine then_n ?_
          refine wp_seq ?_
          refine wp_reg ?_
          refine sq_val (v_build (parts := []) (out := TCube.enc TCube.zero) hF rfl rfl pz26 rfl pp26 rfl) hF (by decide) (fun a hF => ?_)
          refine sq_buildSlice (κ := k_TCube) (xs := [.tmp 35]) (ys := [TCube.zero]) hF hS rfl rfl rfl (Els.cons rfl (Els.nil _ _ _)) rfl psl29 pz26 rfl (by decide) (by decide) (by decide) (fun A27 c28 a W hF hS => ?_)
          refine sq_buildSlice (κ := k_TCube) (xs := []) (ys := ([] : List TCube)) hF hS rfl rfl rfl (Els.nil _ _ _) rfl psl29 pz26 rfl (by decide) (by decide) (by decide) (fun A29 c30 a W hF hS => ?_)
          refine sq_val (v_move hF rfl) hF (by decide) (fun a hF => ?_)
          obtain ⟨x33, hx34, h⟩ := bindS h
          refine sq_append (ys := x17.1) hF hS (i := 0) rfl rfl rfl (hS.rw_ (i := 2) rfl).src psl29 pb26 pz26 rfl (by decide) (by decide) hx34 (by decide) (fun A31 c32 a W hF hS => ?_)
          refine sq_val (v_move hF rfl) hF (by decide) (fun a hF => ?_)
          obtain ⟨x37, hx38, h⟩ := bindS h
          refine sq_append (ys := u0) hF hS (i := 0) rfl rfl rfl (SlR.src (hS.fc (i := 1) rfl)) psl29 pb26 pz26 rfl (by decide) (by decide) hx38 (by decide) (fun A35 c36 a W hF hS => ?_)
          obtain ⟨x39, hx40, h⟩ := bindS h
          refine sq_call hF pc44 rfl (by decide) (ok_space_Within k (((hS.freeze (i := 1) rfl (posB rfl)).freeze (i := 0) rfl (posB rfl)).enter ⟨⟨1, rfl⟩, ⟨0, rfl⟩, trivial⟩) hx40) (fun v W hR a hF => ?_)
          obtain ⟨rfl, hT41⟩ := hR
          have hS := hS.grow hT41.below
          refine sq_val (v_move hF rfl) hF (by decide) (fun a hF => ?_)
          refine sq_val (v_extract hF rfl rfl) hF (by decide) (fun a hF => ?_)
          refine sq_val (v_extract hF rfl rfl) hF (by decide) (fun a hF => ?_)
          refine sq_val (v_assign hF rfl) hF (by decide) (fun a hF => ?_)
          refine sq_val (v_assign hF rfl) hF (by decide) (fun a hF => ?_)
          refine sq_nil ?_
          refine then_n ?_
          refine wp_seq ?_
          refine wp_reg ?_
          obtain ⟨x42, hx43, h⟩ := bindS h
          refine sq_call hF pc36 rfl (by decide) (ok_law03_answers k (hS.enter trivial) hx43) (fun v W hR a hF => ?_)
          obtain ⟨rfl, hT44⟩ := hR
          have hS := hS.grow hT44.below
          refine sq_val (v_move hF rfl) hF (by decide) (fun a hF => ?_)
          refine sq_cut 6 (fun a W => FH 59 [(0, .slice A0_0 ((u0).length) c0_0), (3, .slice A19 ((x17.1).length) c20), (52, .bool (x42 && ((x39.2 != 0) || x39.1)))] a ∧ St M w0 [] [⟨k_TCube, 26, A35, c36, x37⟩, ⟨k_TCube, 26, A27, c28, [TCube.zero]⟩, ⟨k_TCube, 26, A19, c20, x17.1⟩] [fSl k_TCube A15 c16 ([TCube.zero]), fSl k_TCube A0_0 c0_0 u0] W) (fun a W hJ => ?_) ?_
          ·
            obtain ⟨hF, hS⟩ := hJ
            refine sq_val (v_move hF rfl) hF (by decide) (fun a hF => ?_)
            obtain ⟨x48, h, hk50⟩ := bindS h
            refine sq_cut 5 (fun a W => FH 59 [(58, .bool x48)] a ∧ St M w0 [] [⟨k_TCube, 26, A35, c36, x37⟩, ⟨k_TCube, 26, A27, c28, [TCube.zero]⟩, ⟨k_TCube, 26, A19, c20, x17.1⟩] [fSl k_TCube A15 c16 ([TCube.zero]), fSl k_TCube A0_0 c0_0 u0] W) (fun a W hJ => ?_) ?_
            ·
              have h := hk50
              obtain ⟨hF, hS⟩ := hJ
              refine sq_val (v_assign hF rfl) hF (by decide) (fun a hF => ?_)
              refine sq_nil ?_
              refine then_n ?_
              refine wp_ret ?_
              obtain rfl := Option.some.inj h
              exact ret1 hF rfl (rv_tmp hF rfl) ⟨_, rfl, rfl, (hS.keep (List.Sublist.refl _) (List.nil_sublist _) trivial)⟩
            ·
              by_cases he47 : (x42 && ((x39.2 != 0) || x39.1)) = true
              ·
                replace h := ifT he47 h
                refine sq_yes hF rfl rfl he47 ?_
                refine sq_val (v_move hF rfl) hF (by decide) (fun a hF => ?_)
                refine sq_yes hF rfl rfl he47 ?_
                refine sq_val (v_move hF rfl) hF (by decide) (fun a hF => ?_)
                refine sq_yes hF rfl rfl he47 ?_
                obtain ⟨x51, hx52, h⟩ := bindS h
                refine sq_call hF pc45 rfl (by decide) (ok_space_Touch k ((hS.freeze (i := 2) rfl (posB rfl)).enter ⟨⟨0, rfl⟩, ⟨2, rfl⟩, trivial⟩) hx52) (fun v W hR a hF => ?_)
                obtain ⟨rfl, hT53⟩ := hR
                have hS := hS.grow hT53.below
                refine sq_yes hF rfl rfl he47 ?_
                refine sq_val (v_not hF rfl) hF (by decide) (fun a hF => ?_)
                refine sq_val (v_pick_t hF rfl he47 rfl) hF (by decide) (fun a hF => ?_)
                obtain rfl := Option.some.inj h
                exact sq_nil (then_j ⟨(hF.keep ⟨rfl, trivial⟩), hS⟩)
              ·
                have he47 : (x42 && ((x39.2 != 0) || x39.1)) = false := nB he47
                replace h := ifF he47 h
                refine sq_no hF rfl rfl he47 (by rintro x ⟨⟩; decide) (fun a hF => ?_)
                refine sq_no hF rfl rfl he47 (by rintro x ⟨⟩; decide) (fun a hF => ?_)
                refine sq_no hF rfl rfl he47 (by rintro x ⟨⟩; decide) (fun a hF => ?_)
                refine sq_no hF rfl rfl he47 (by rintro x ⟨⟩; decide) (fun a hF => ?_)
                refine sq_val (v_pick_f hF rfl he47 rfl) hF (by decide) (fun a hF => ?_)
                obtain rfl := Option.some.inj h
                exact sq_nil (then_j ⟨(hF.keep ⟨rfl, trivial⟩), hS⟩)
          ·
            by_cases he45 : x42 = true
            ·
              refine sq_yes hF rfl rfl he45 ?_
              refine sq_val (v_move hF rfl) hF (by decide) (fun a hF => ?_)
              refine sq_yes hF rfl rfl he45 ?_
              refine sq_val (v_neq hF rfl rfl) hF (by decide) (fun a hF => ?_)
              refine sq_yes hF rfl rfl he45 ?_
              refine sq_val (v_move hF rfl) hF (by decide) (fun a hF => ?_)
              refine sq_cut 2 (fun a W => FH 59 [(0, .slice A0_0 ((u0).length) c0_0), (3, .slice A19 ((x17.1).length) c20), (46, .bool (x42)), (51, .bool ((x39.2 != 0) || x39.1))] a ∧ St M w0 [] [⟨k_TCube, 26, A35, c36, x37⟩, ⟨k_TCube, 26, A27, c28, [TCube.zero]⟩, ⟨k_TCube, 26, A19, c20, x17.1⟩] [fSl k_TCube A15 c16 ([TCube.zero]), fSl k_TCube A0_0 c0_0 u0] W) (fun a W hJ => ?_) ?_
              ·
                obtain ⟨hF, hS⟩ := hJ
                refine sq_val (v_pick_t hF rfl he45 rfl) hF (by decide) (fun a hF => ?_)
                exact sq_nil (then_j ⟨(hF.keep ⟨rfl, rfl, (boolV (and_t he45)), trivial⟩), hS⟩)
              ·
                by_cases he46 : (x39.2 != 0) = true
                ·
                  refine sq_no hF rfl rfl he46 (by rintro x ⟨⟩; decide) (fun a hF => ?_)
                  refine sq_yes hF rfl rfl he45 ?_
                  refine sq_val (v_pick_t hF rfl he46 rfl) hF (by decide) (fun a hF => ?_)
                  exact sq_nil (then_j ⟨(hF.keep ⟨rfl, rfl, rfl, (boolV (or_t he46)), trivial⟩), hS⟩)
                ·
                  have he46 : (x39.2 != 0) = false := nB he46
                  refine sq_yes hF rfl rfl he46 ?_
                  refine sq_val (v_move hF rfl) hF (by decide) (fun a hF => ?_)
                  refine sq_yes hF rfl rfl he45 ?_
                  refine sq_val (v_pick_f hF rfl he46 rfl) hF (by decide) (fun a hF => ?_)
                  exact sq_nil (then_j ⟨(hF.keep ⟨rfl, rfl, rfl, (boolV (or_f he46)), trivial⟩), hS⟩)
            ·
              have he45 : x42 = false := nB he45
              refine sq_no hF rfl rfl he45 (by rintro x ⟨⟩; decide) (fun a hF => ?_)
              refine sq_no hF rfl rfl he45 (by rintro x ⟨⟩; decide) (fun a hF => ?_)
              refine sq_no hF rfl rfl he45 (by rintro x ⟨⟩; decide) (fun a hF => ?_)
              refine sq_no2 hF rfl rfl (by rintro x ⟨⟩; decide) (fun a hF => ?_)
              refine sq_no hF rfl rfl he45 (by rintro x ⟨⟩; decide) (fun a hF => ?_)
              refine sq_val (v_pick_f hF rfl he45 rfl) hF (by decide) (fun a hF => ?_)
              exact sq_nil (then_j ⟨(hF.keep ⟨rfl, rfl, (boolV (and_f he45)), trivial⟩), hS⟩)
      ·
        by_cases he22 : (x17.2 != 0) = true
        ·
          refine sq_no hF rfl rfl he22 (by rintro x ⟨⟩; decide) (fun a hF => ?_)
          refine sq_no hF rfl rfl he22 (by rintro x ⟨⟩; decide) (fun a hF => ?_)
          refine sq_no hF rfl rfl he22 (by rintro x ⟨⟩; decide) (fun a hF => ?_)
          refine sq_no hF rfl rfl he22 (by rintro x ⟨⟩; decide) (fun a hF => ?_)
          refine sq_no hF rfl rfl he22 (by rintro x ⟨⟩; decide) (fun a hF => ?_)
          refine sq_no hF rfl rfl he22 (by rintro x ⟨⟩; decide) (fun a hF => ?_)
          refine sq_val (v_pick_t hF rfl he22 rfl) hF (by decide) (fun a hF => ?_)
          exact sq_nil (then_j ⟨(hF.keep ⟨rfl, rfl, (boolV (or_t he22)), trivial⟩), hS⟩)
        ·
          have he22 : (x17.2 != 0) = false := nB he22
          refine sq_yes hF rfl rfl he22 ?_
          refine sq_val (v_move hF rfl) hF (by decide) (fun a hF => ?_)
          refine sq_yes hF rfl rfl he22 ?_
          refine sq_val (v_len hF rfl pu29) hF (by decide) (fun a hF => ?_)
          refine sq_yes hF rfl rfl he22 ?_
          refine sq_val (v_move hF rfl) hF (by decide) (fun a hF => ?_)
          refine sq_yes hF rfl rfl he22 ?_
          refine sq_val (v_len hF rfl pu29) hF (by decide) (fun a hF => ?_)
          refine sq_yes hF rfl rfl he22 ?_
          refine sq_val (v_add hF rfl rfl) hF (by decide) (fun a hF => ?_)
          refine sq_yes hF rfl rfl he22 ?_
          refine sq_val (v_gtr hF rfl rfl) hF (by decide) (fun a hF => ?_)
          refine sq_val (v_pick_f hF rfl he22 rfl) hF (by decide) (fun a hF => ?_)
          exact sq_nil (then_j ⟨(hF.keep ⟨rfl, rfl, (boolV (or_f he22)), trivial⟩), hS⟩)
  ·
    by_cases he4 : (!x1) = true
    ·
      replace h := ifT he4 h
      refine sq_no hF rfl rfl he4 (by rintro x ⟨⟩; decide) (fun a hF => ?_)
      refine sq_no hF rfl rfl he4 (by rintro x ⟨⟩; decide) (fun a hF => ?_)
      refine sq_no hF rfl rfl he4 (by rintro x ⟨⟩; decide) (fun a hF => ?_)
      refine sq_val (v_pick_t hF rfl he4 rfl) hF (by decide) (fun a hF => ?_)
      obtain rfl := Option.some.inj h
      exact sq_nil (then_j ⟨(hF.keep ⟨rfl, rfl, trivial⟩), hS⟩)
    ·
      have he4 : (!x1) = false := nB he4
      replace h := ifF he4 h
      refine sq_yes hF rfl rfl he4 ?_
      refine sq_val (v_move hF rfl) hF (by decide) (fun a hF => ?_)
      refine sq_yes hF rfl rfl he4 ?_
      obtain ⟨x8, hx9, h⟩ := bindS h
      refine sq_call hF pc39 rfl (by decide) (ok_ref01_Space k (hS.enter ⟨⟨0, rfl⟩, trivial⟩) hx9) (fun v W hR a hF => ?_)
      obtain ⟨rfl, hT10⟩ := hR
      have hS := hS.grow hT10.below
      refine sq_yes hF rfl rfl he4 ?_
      refine sq_val (v_not hF rfl) hF (by decide) (fun a hF => ?_)
      refine sq_val (v_pick_f hF rfl he4 rfl) hF (by decide) (fun a hF => ?_)
      obtain rfl := Option.some.inj h
      exact sq_nil (then_j ⟨(hF.keep ⟨rfl, rfl, trivial⟩), hS⟩)
end Go.Proofs.Ytangebngeeamoaa
