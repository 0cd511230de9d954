/- What calls of the Go functions come to. -/
import Derived.Test.YtangebngeeamoaaW4
set_option linter.unusedVariables false
set_option linter.unusedSimpArgs false
set_option maxRecDepth 100000
set_option maxHeartbeats 4000000
namespace Go.Proofs.Ytangebngeeamoaa
open Go.RowKit Go.Pod
theorem ok_mods_Apply (k : Nat) {M : Nat → Prop} {w0 : World} {u0 : List TRule} {A0_0 : Option Addr} {c0_0 : Nat} {u1 : TMod} {A1_0 : Option Addr} {c1_0 : Nat} {u2 : Int} {o : (List TRule) × Int} (hS : St M w0 [] [] [fSl k_TRule A0_0 c0_0 u0, fSl k_TAct A1_0 c1_0 u1.Acts] w0) (h : mods_Apply k u0 u1 u2 = some o) :
    Calls Try.prog 24 #[.slice A0_0 ((u0).length) c0_0, .agg (TMod.enc u1 A1_0 c1_0).toArray, .int .i64 (u2)] w0 fun e W' => ∃ v, e = .returned v ∧ (∃ (A83 : Option Addr) (c84 : Nat), v = .tuple #[.slice A83 ((o.1).length) c84, .int .i64 (o.2)] ∧ St M w0 [] [⟨k_TRule, 65, A83, c84, o.1⟩] [] W') := by
  unfold mods_Apply at h
  refine calls_start (args := [.slice A0_0 ((u0).length) c0_0, .agg (TMod.enc u1 A1_0 c1_0).toArray, .int .i64 (u2)]) Try.func24 rfl rfl (Nat.le_of_ble_eq_true rfl) (fun a hF => ?_)
  refine wp_seq ?_
  refine wp_reg ?_
  refine sq_box hF hS rfl rfl (by decide) (fun b1 a W hF hS => ?_)
  refine sq_val (v_assign hF rfl) hF (by decide) (fun a hF => ?_)
  refine sq_val (v_assign hF rfl) hF (by decide) (fun a hF => ?_)
  refine sq_nil ?_
  refine then_n ?_
  refine wp_seq ?_
  refine wp_seq ?_
  refine wp_reg ?_
  refine sq_val (v_move hF rfl) hF (by decide) (fun a hF => ?_)
  obtain ⟨x2, hx3, h⟩ := bindS h
  refine sq_call hF pc65 rfl (by decide) (ok_rule_Table k (hS.enter ⟨⟨0, rfl⟩, trivial⟩) hx3) (fun v W hR a hF => ?_)
  obtain ⟨rfl, hT4⟩ := hR
  have hS := hS.grow hT4.below
  refine sq_val (v_not hF rfl) hF (by decide) (fun a hF => ?_)
  refine sq_val (v_move hF rfl) hF (by decide) (fun a hF => ?_)
  obtain ⟨x6, h, hk8⟩ := bindS h
  refine sq_cut 4 (fun a W => FH 57 [(0, .slice A0_0 ((u0).length) c0_0), (2, .int .i64 (u2)), (4, .pointer (some (⟨b1, 0, none⟩))), (18, .bool x6)] a ∧ St M w0 [⟨b1, TMod.enc u1 A1_0 c1_0, 40⟩] [] [fSl k_TRule A0_0 c0_0 u0, fSl k_TAct A1_0 c1_0 u1.Acts] W) (fun a W hJ => ?_) ?_
  ·
   have h := hk8
   obtain ⟨hF, hS⟩ := hJ
   refine sq_nil ?_
   refine then_n ?_
   refine wp_if hF rfl (fun he12 => ?_) (fun he12 => ?_)
   ·
    replace h := ifT he12 h
    refine wp_seq ?_
    refine wp_reg ?_
    refine sq_val (v_assign hF rfl) hF (by decide) (fun a hF => ?_)
    refine sq_val (v_assign hF rfl) hF (by decide) (fun a hF => ?_)
    refine sq_nil ?_
    refine then_n ?_
    refine wp_ret ?_
    refine then_r ?_
    have hS := hS.addNil k_TRule 65
    obtain rfl := Option.some.inj h
    exact ret2 hF rfl (rv_tmp hF rfl) (rv_tmp hF rfl) ⟨_, rfl, none, 0, rfl, (hS.keep (List.nil_sublist _) (List.Sublist.refl _) trivial)⟩
   ·
    replace h := ifF he12 h
    refine wp_skip ?_
    refine then_n ?_
    refine wp_seq ?_
    refine wp_seq ?_
    refine wp_reg ?_
    refine sq_val (v_fieldAddr hF rfl pf40_0) hF (by decide) (fun a hF => ?_)
    refine sq_val (v_load1 hF rfl pa3 (cells_sub (vs := [.int .i64 (u1.Kind)]) (hS.bc (i := 0) rfl) rfl rfl)) hF (by decide) (fun a hF => ?_)
    refine sq_val (v_eql hF rfl rfl) hF (by decide) (fun a hF => ?_)
    refine sq_nil ?_
    refine then_n ?_
    refine wp_if hF rfl (fun he13 => ?_) (fun he13 => ?_)
    ·
     replace h := ifT he13 h
     refine wp_seq ?_
     refine wp_reg ?_
     refine sq_val (v_move hF rfl) hF (by decide) (fun a hF => ?_)
     refine sq_val (v_load (cs := TMod.enc u1 A1_0 c1_0) hF rfl pa40 ps40 (hS.bc (i := 0) rfl)) hF (by decide) (fun a hF => ?_)
     refine sq_val (v_move hF rfl) hF (by decide) (fun a hF => ?_)
     obtain ⟨x14, hx15, h⟩ := bindS h
     refine sq_call hF pc66 rfl (by decide) (ok_mods_add k (hS.enter ⟨⟨0, rfl⟩, ⟨1, rfl⟩, trivial⟩) hx15) (fun v W hR a hF => ?_)
     obtain ⟨A16, c17, rfl, hT18⟩ := hR
     have hS := hS.join hT18
     refine sq_val (v_extract hF rfl rfl) hF (by decide) (fun a hF => ?_)
     refine sq_val (v_extract hF rfl rfl) hF (by decide) (fun a hF => ?_)
     refine sq_val (v_assign hF rfl) hF (by decide) (fun a hF => ?_)
     refine sq_val (v_assign hF rfl) hF (by decide) (fun a hF => ?_)
     refine sq_nil ?_
     refine then_n ?_
     refine wp_ret ?_
     refine then_r ?_
     obtain rfl := Option.some.inj h
     exact ret2 hF rfl (rv_tmp hF rfl) (rv_tmp hF rfl) ⟨_, rfl, A16, c17, rfl, (hS.keep (List.nil_sublist _) (List.Sublist.refl _) trivial)⟩
    ·
     replace h := ifF he13 h
     refine wp_skip ?_
     refine then_n ?_
     refine wp_seq ?_
     refine wp_reg ?_
     refine sq_val (v_assign hF rfl) hF (by decide) (fun a hF => ?_)
     refine sq_nil ?_
     refine then_n ?_
     refine wp_seq ?_
     refine wp_seq ?_
     refine wp_reg ?_
     refine sq_val (v_move hF rfl) hF (by decide) (fun a hF => ?_)
     obtain ⟨x19, hx20, h⟩ := bindS h
     refine sq_call hF pc67 rfl (by decide) (ok_rule_Copy k (hS.enter ⟨⟨0, rfl⟩, trivial⟩) hx20) (fun v W hR a hF => ?_)
     obtain ⟨A21, c22, rfl, hT23⟩ := hR
     have hS := hS.join hT23
     refine sq_val (v_len hF rfl pu37) hF (by decide) (fun a hF => ?_)
     refine sq_val (v_move hF rfl) hF (by decide) (fun a hF => ?_)
     refine sq_nil ?_
     refine then_n ?_
     obtain ⟨o35, h, hk36⟩ := bindS h
     refine wp_join (fun a W => ∃ (x32 : List TRule) (A33 : Option Addr) (c34 : Nat), x32 = o35 ∧ FH 57 [(8, .slice A33 ((x32).length) c34)] a ∧ St M w0 [] [⟨k_TRule, 65, A33, c34, x32⟩] [] W) (fun a W hJ => ?_) ?_
     ·
      obtain ⟨x32, A33, c34, rfl, hF, hS⟩ := hJ
      have h := hk36
      refine then_n ?_
      refine wp_seq ?_
      refine wp_reg ?_
      refine sq_val (v_move hF rfl) hF (by decide) (fun a hF => ?_)
      refine sq_val (v_assign hF rfl) hF (by decide) (fun a hF => ?_)
      refine sq_val (v_assign hF rfl) hF (by decide) (fun a hF => ?_)
      refine sq_nil ?_
      refine then_n ?_
      refine wp_ret ?_
      obtain rfl := Option.some.inj h
      exact ret2 hF rfl (rv_tmp hF rfl) (rv_tmp hF rfl) ⟨_, rfl, A33, c34, rfl, hS⟩
     ·
      have hS := hS.addNil k_TRule 65
      refine wp_block ?_
      refine wp_loop_fuel (I := fun m a W => ∃ (x28 : List TRule) (x31 : Int) (A29 : Option Addr) (c30 : Nat), FH 57 [(4, .pointer (some (⟨b1, 0, none⟩))), (8, .slice A29 ((x28).length) c30), (29, .slice A21 ((x19).length) c22), (30, .int .i64 ((x19.length : Int))), (31, .int .i64 (x31))] a ∧ St M w0 [⟨b1, TMod.enc u1 A1_0 c1_0, 40⟩] [⟨k_TRule, 65, A29, c30, x28⟩, ⟨k_TRule, 65, A21, c22, x19⟩] [fSl k_TAct A1_0 c1_0 u1.Acts] W ∧ (mods_Apply.l0 k u1 x19 m x28 x31) = some o35) ?_ (k := k) ⟨([]), 0, none, 0, (hF.keep ⟨rfl, rfl, rfl, rfl, rfl, trivial⟩), (hS.keep (List.Sublist.refl _) (List.Sublist.refl _) ⟨⟨1, rfl⟩, trivial⟩), h⟩
      rintro m37 a W ⟨x28, x31, A29, c30, hF, hS, h⟩
      cases m37 with
      | zero => cases h
      | succ m37 =>
       rw [mods_Apply.l0] at h
       refine wp_seq ?_
       refine wp_reg ?_
       refine sq_val (v_lss hF rfl rfl) hF (by decide) (fun a hF => ?_)
       refine sq_nil ?_
       refine then_n ?_
       refine wp_seq ?_
       refine wp_if hF rfl (fun he38 => ?_) (fun he38 => ?_)
       ·
        replace h := ifT he38 h
        refine wp_skip ?_
        refine then_n ?_
        refine wp_seq ?_
        obtain ⟨o42, h, hk43⟩ := bindS h
        refine wp_join (fun a W => ∃ (x39 : List TRule) (A40 : Option Addr) (c41 : Nat), x39 = o42 ∧ FH 57 [(4, .pointer (some (⟨b1, 0, none⟩))), (8, .slice A40 ((x39).length) c41), (29, .slice A21 ((x19).length) c22), (30, .int .i64 ((x19.length : Int))), (31, .int .i64 (x31))] a ∧ St M w0 [⟨b1, TMod.enc u1 A1_0 c1_0, 40⟩] [⟨k_TRule, 65, A40, c41, x39⟩, ⟨k_TRule, 65, A21, c22, x19⟩] [fSl k_TAct A1_0 c1_0 u1.Acts] W) (fun a W hJ => ?_) ?_
        ·
         obtain ⟨x39, A40, c41, rfl, hF, hS⟩ := hJ
         have h := hk43
         refine then_n ?_
         refine wp_reg ?_
         refine sq_val (v_add hF rfl rfl) hF (by decide) (fun a hF => ?_)
         refine sq_val (v_move hF rfl) hF (by decide) (fun a hF => ?_)
         refine sq_nil ?_
         exact then_j ⟨m37, Nat.lt_succ_self _, x39, (IntKind.i64.wrap (x31 + 1)), A40, c41, (hF.keep ⟨rfl, rfl, rfl, rfl, rfl, trivial⟩), hS, h⟩
        ·
         refine wp_block ?_
         refine wp_seq ?_
         refine wp_reg ?_
         obtain ⟨x44, hx45, h⟩ := bindS h
         obtain ⟨p46, cs47, hA48, hc50, hr51⟩ := Row.ok.at (hS.rw_ (i := 1) rfl) hx45
         obtain ⟨A52, c53, rfl, hs54⟩ := hr51
         have hS := hS.addFact (f := fSl k_TAct A52 c53 x44.Acts) hs54
         refine sq_val (v_idx hF rfl hA48 rfl psl37 hx45) hF (by decide) (fun a hF => ?_)
         refine sq_val (v_load (cs := TRule.enc x44 A52 c53) hF rfl pa65 ps65 hc50) hF (by decide) (fun a hF => ?_)
         refine sq_alloc hF hS pz65 rfl (by decide) (fun b55 a W hF hS => ?_)
         refine sq_store (o := 0) (vs := TRule.enc x44 A52 c53) (cs' := TRule.enc x44 A52 c53) hF hS rfl rfl (i := 0) rfl rfl rfl ps65 (TRule.enc_one _ _ _) (Nat.le_of_ble_eq_true rfl) rfl (fun W hS => ?_)
         refine sq_nil ?_
         refine then_n ?_
         refine wp_seq ?_
         refine wp_seq ?_
         refine wp_reg ?_
         refine sq_val (v_load (cs := TMod.enc u1 A1_0 c1_0) hF rfl pa40 ps40 (hS.bc (i := 1) rfl)) hF (by decide) (fun a hF => ?_)
         refine sq_val (v_load (cs := TRule.enc x44 A52 c53) hF rfl pa65 ps65 (hS.bc (i := 0) rfl)) hF (by decide) (fun a hF => ?_)
         obtain ⟨x56, hx57, h⟩ := bindS h
         refine sq_call hF pc68 rfl (by decide) (ok_mods_touches k (hS.enter ⟨⟨1, rfl⟩, ⟨0, rfl⟩, trivial⟩) hx57) (fun v W hR a hF => ?_)
         obtain ⟨rfl, hT58⟩ := hR
         have hS := hS.grow hT58.below
         refine sq_nil ?_
         refine then_n ?_
         refine wp_if hF rfl (fun he59 => ?_) (fun he59 => ?_)
         ·
          replace h := ifT he59 h
          refine wp_seq ?_
          refine wp_seq ?_
          refine wp_reg ?_
          refine sq_val (v_fieldAddr hF rfl pf40_0) hF (by decide) (fun a hF => ?_)
          refine sq_val (v_load1 hF rfl pa3 (cells_sub (vs := [.int .i64 (u1.Kind)]) (hS.bc (i := 1) rfl) rfl rfl)) hF (by decide) (fun a hF => ?_)
          refine sq_val (v_eql hF rfl rfl) hF (by decide) (fun a hF => ?_)
          refine sq_val (v_move hF rfl) hF (by decide) (fun a hF => ?_)
          refine sq_cut 4 (fun a W => FH 57 [(4, .pointer (some (⟨b1, 0, none⟩))), (8, .slice A29 ((x28).length) c30), (10, .pointer (some (⟨b55, 0, none⟩))), (29, .slice A21 ((x19).length) c22), (30, .int .i64 ((x19.length : Int))), (31, .int .i64 (x31)), (45, .bool ((u1.Kind == 3) || (u1.Kind == 5)))] a ∧ St M w0 [⟨b55, TRule.enc x44 A52 c53, 65⟩, ⟨b1, TMod.enc u1 A1_0 c1_0, 40⟩] [⟨k_TRule, 65, A29, c30, x28⟩, ⟨k_TRule, 65, A21, c22, x19⟩] [fSl k_TAct A52 c53 x44.Acts, fSl k_TAct A1_0 c1_0 u1.Acts] W) (fun a W hJ => ?_) ?_
          ·
           obtain ⟨hF, hS⟩ := hJ
           refine sq_nil ?_
           refine then_n ?_
           refine wp_if hF rfl (fun he61 => ?_) (fun he61 => ?_)
           ·
            replace h := ifT he61 h
            refine wp_exit ?_
            refine then_x ?_
            refine then_x ?_
            refine blk_hit ?_
            obtain rfl := Option.some.inj h
            exact then_j ⟨x28, A29, c30, rfl, (hF.keep ⟨rfl, rfl, rfl, rfl, rfl, trivial⟩), (hS.keep (.cons _ (List.Sublist.refl _)) (List.Sublist.refl _) ⟨⟨1, rfl⟩, trivial⟩)⟩
           ·
            replace h := ifF he61 h
            refine wp_skip ?_
            refine then_n ?_
            refine wp_reg ?_
            refine sq_val (v_fieldAddr hF rfl pf40_3) hF (by decide) (fun a hF => ?_)
            refine sq_val (v_load1 hF rfl pa38 (cells_sub (vs := [.slice A1_0 ((u1.Acts).length) c1_0]) (hS.bc (i := 1) rfl) rfl rfl)) hF (by decide) (fun a hF => ?_)
            obtain ⟨x62, hx63, h⟩ := bindS h
            refine sq_call hF pc70 rfl (by decide) (ok_slices_Clone_Act (hS.enter ⟨⟨1, rfl⟩, trivial⟩) hx63) (fun v W hR a hF => ?_)
            obtain ⟨A64, c65, rfl, hT66⟩ := hR
            have hS := hS.join hT66
            obtain ⟨x67, hx68, h⟩ := bindS h
            refine sq_call hF pc69 rfl (by decide) (ok_slices_Clip_Act hS hx68) (fun v W hR a hF => ?_)
            obtain ⟨A69, c70, rfl, hS⟩ := hR
            refine sq_val (v_fieldAddr hF rfl pf65_2) hF (by decide) (fun a hF => ?_)
            have hS := hS.freeze (i := 0) rfl (posB rfl)
            refine sq_store (o := 25) (vs := [.slice A69 ((x67).length) c70]) (cs' := TRule.enc (TRule.setActs x44 x67) A69 c70) hF hS rfl rfl (i := 0) rfl rfl rfl ps38 (one1 rfl) (Nat.le_of_ble_eq_true rfl) rfl (fun W hS => ?_)
            refine sq_nil ?_
            refine then_n ?_
            refine wp_reg ?_
            refine sq_val (v_move hF rfl) hF (by decide) (fun a hF => ?_)
            refine sq_val (v_load (cs := TRule.enc (TRule.setActs x44 x67) A69 c70) hF rfl pa65 ps65 (hS.bc (i := 0) rfl)) hF (by decide) (fun a hF => ?_)
            refine sq_buildSlice (κ := k_TRule) (xs := [.tmp 52]) (ys := [(TRule.setActs x44 x67)]) hF hS rfl rfl rfl (Els.cons ⟨A69, c70, rfl, (hS.fc (i := 0) rfl)⟩ (Els.nil _ _ _)) rfl psl37 pz65 rfl (by decide) (by decide) (by decide) (fun A71 c72 a W hF hS => ?_)
            obtain ⟨x75, hx76, h⟩ := bindS h
            refine sq_append (ys := ([(TRule.setActs x44 x67)])) hF hS (i := 1) rfl rfl rfl (hS.rw_ (i := 0) rfl).src psl37 pb65 pz65 rfl (by decide) (by decide) hx76 (by decide) (fun A73 c74 a W hF hS => ?_)
            refine sq_val (v_assign hF rfl) hF (by decide) (fun a hF => ?_)
            refine sq_nil ?_
            refine blk_n ?_
            obtain rfl := Option.some.inj h
            exact then_j ⟨x75, A73, c74, rfl, (hF.keep ⟨rfl, rfl, rfl, rfl, rfl, trivial⟩), (hS.keep (.cons _ (List.Sublist.refl _)) (.cons _ (List.Sublist.refl _)) ⟨⟨2, rfl⟩, trivial⟩)⟩
          ·
           by_cases he60 : (u1.Kind == 3) = true
           ·
            refine sq_no hF rfl rfl he60 (by rintro x ⟨⟩; decide) (fun a hF => ?_)
            refine sq_no hF rfl rfl he60 (by rintro x ⟨⟩; decide) (fun a hF => ?_)
            refine sq_no hF rfl rfl he60 (by rintro x ⟨⟩; decide) (fun a hF => ?_)
            refine sq_val (v_pick_t hF rfl he60 rfl) hF (by decide) (fun a hF => ?_)
            exact sq_nil (then_j ⟨(hF.keep ⟨rfl, rfl, rfl, rfl, rfl, rfl, (boolV (or_t he60)), trivial⟩), hS⟩)
           ·
            have he60 : (u1.Kind == 3) = false := nB he60
            refine sq_yes hF rfl rfl he60 ?_
            refine sq_val (v_fieldAddr hF rfl pf40_0) hF (by decide) (fun a hF => ?_)
            refine sq_yes hF rfl rfl he60 ?_
            refine sq_val (v_load1 hF rfl pa3 (cells_sub (vs := [.int .i64 (u1.Kind)]) (hS.bc (i := 1) rfl) rfl rfl)) hF (by decide) (fun a hF => ?_)
            refine sq_yes hF rfl rfl he60 ?_
            refine sq_val (v_eql hF rfl rfl) hF (by decide) (fun a hF => ?_)
            refine sq_val (v_pick_f hF rfl he60 rfl) hF (by decide) (fun a hF => ?_)
            exact sq_nil (then_j ⟨(hF.keep ⟨rfl, rfl, rfl, rfl, rfl, rfl, (boolV (or_f he60)), trivial⟩), hS⟩)
         ·
          replace h := ifF he59 h
          refine wp_skip ?_
          refine then_n ?_
          refine wp_reg ?_
          refine sq_val (v_move hF rfl) hF (by decide) (fun a hF => ?_)
          refine sq_val (v_load (cs := TRule.enc x44 A52 c53) hF rfl pa65 ps65 (hS.bc (i := 0) rfl)) hF (by decide) (fun a hF => ?_)
          refine sq_buildSlice (κ := k_TRule) (xs := [.tmp 52]) (ys := [x44]) hF hS rfl rfl rfl (Els.cons ⟨A52, c53, rfl, (hS.fc (i := 0) rfl)⟩ (Els.nil _ _ _)) rfl psl37 pz65 rfl (by decide) (by decide) (by decide) (fun A77 c78 a W hF hS => ?_)
          obtain ⟨x81, hx82, h⟩ := bindS h
          refine sq_append (ys := ([x44])) hF hS (i := 1) rfl rfl rfl (hS.rw_ (i := 0) rfl).src psl37 pb65 pz65 rfl (by decide) (by decide) hx82 (by decide) (fun A79 c80 a W hF hS => ?_)
          refine sq_val (v_assign hF rfl) hF (by decide) (fun a hF => ?_)
          refine sq_nil ?_
          refine blk_n ?_
          obtain rfl := Option.some.inj h
          exact then_j ⟨x81, A79, c80, rfl, (hF.keep ⟨rfl, rfl, rfl, rfl, rfl, trivial⟩), (hS.keep (.cons _ (List.Sublist.refl _)) (.cons _ (List.Sublist.refl _)) ⟨⟨1, rfl⟩, trivial⟩)⟩
       ·
        replace h := ifF he38 h
        refine wp_exit ?_
        refine then_x ?_
        refine then_x ?_
        refine blk_hit ?_
        obtain rfl := Option.some.inj h
        exact then_j ⟨x28, A29, c30, rfl, (hF.keep ⟨rfl, trivial⟩), (hS.keep (List.nil_sublist _) (.cons_cons _ (List.nil_sublist _)) trivial)⟩
  ·
   by_cases he5 : (!x2) = true
   ·
    replace h := ifT he5 h
    refine sq_no hF rfl rfl he5 (by rintro x ⟨⟩; decide) (fun a hF => ?_)
    refine sq_no hF rfl rfl he5 (by rintro x ⟨⟩; decide) (fun a hF => ?_)
    refine sq_no hF rfl rfl he5 (by rintro x ⟨⟩; decide) (fun a hF => ?_)
    refine sq_val (v_pick_t hF rfl he5 rfl) hF (by decide) (fun a hF => ?_)
    obtain rfl := Option.some.inj h
    exact sq_nil (then_j ⟨(hF.keep ⟨rfl, rfl, rfl, rfl, trivial⟩), hS⟩)
   ·
    have he5 : (!x2) = false := nB he5
    replace h := ifF he5 h
    refine sq_yes hF rfl rfl he5 ?_
    refine sq_val (v_load (cs := TMod.enc u1 A1_0 c1_0) hF rfl pa40 ps40 (hS.bc (i := 0) rfl)) hF (by decide) (fun a hF => ?_)
    refine sq_yes hF rfl rfl he5 ?_
    obtain ⟨x9, hx10, h⟩ := bindS h
    refine sq_call hF pc27 rfl (by decide) (ok_mods_Sound k (hS.enter ⟨⟨1, rfl⟩, trivial⟩) hx10) (fun v W hR a hF => ?_)
    obtain ⟨rfl, hT11⟩ := hR
    have hS := hS.grow hT11.below
    refine sq_yes hF rfl rfl he5 ?_
    refine sq_val (v_not hF rfl) hF (by decide) (fun a hF => ?_)
    refine sq_val (v_pick_f hF rfl he5 rfl) hF (by decide) (fun a hF => ?_)
    obtain rfl := Option.some.inj h
    exact sq_nil (then_j ⟨(hF.keep ⟨rfl, rfl, rfl, rfl, trivial⟩), hS⟩)

theorem ok_law07_answers (k : Nat) {M : Nat → Prop} {w0 : World}  {o : Bool} (hS : St M w0 [] [] [] w0) (h : law07_answers k = some o) :
    Calls Try.prog 23 #[] w0 fun e W' => ∃ v, e = .returned v ∧ (v = .bool (o) ∧ St M w0 [] [] [] W') := by
  unfold law07_answers at h
  refine calls_start (args := []) Try.func23 rfl rfl (Nat.le_of_ble_eq_true rfl) (fun a hF => ?_)
  refine wp_seq ?_
  refine wp_reg ?_
  refine sq_val (v_assign hF rfl) hF (by decide) (fun a hF => ?_)
  refine sq_nil ?_
  refine then_n ?_
  refine wp_seq ?_
  refine wp_reg ?_
  refine sq_val (v_build (parts := [(0, .const (.int .i64 1)), (2, .const (.int .i64 7)), (6, .const (.int .i64 1))]) (out := TMod.enc ({ Kind := 1, Match := TCube.zero, Prio := 7, Acts := [], Idle := 0, Hard := 0, Owner := 1, Check := false } : TMod) none 0) hF rfl rfl pz40 rfl pp40 rfl) hF (by decide) (fun a hF => ?_)
  refine sq_alloc hF hS pz40 rfl (by decide) (fun b1 a W hF hS => ?_)
  refine sq_store (o := 0) (vs := TMod.enc ({ Kind := 1, Match := TCube.zero, Prio := 7, Acts := [], Idle := 0, Hard := 0, Owner := 1, Check := false } : TMod) none 0) (cs' := TMod.enc ({ Kind := 1, Match := TCube.zero, Prio := 7, Acts := [], Idle := 0, Hard := 0, Owner := 1, Check := false } : TMod) none 0) hF hS rfl rfl (i := 0) rfl rfl rfl ps40 (TMod.enc_one _ _ _) (Nat.le_of_ble_eq_true rfl) rfl (fun W hS => ?_)
  refine sq_nil ?_
  refine then_n ?_
  refine wp_seq ?_
  refine wp_reg ?_
  refine sq_val (v_load (cs := TMod.enc ({ Kind := 1, Match := TCube.zero, Prio := 7, Acts := [], Idle := 0, Hard := 0, Owner := 1, Check := false } : TMod) none 0) hF rfl pa40 ps40 (hS.bc (i := 0) rfl)) hF (by decide) (fun a hF => ?_)
  have hS := hS.addFact (f := fSl k_TRule none 0 []) (SlR.nil _ _ _)
  have hS := hS.addFact (f := fSl k_TAct none 0 []) (SlR.nil _ _ _)
  obtain ⟨x2, hx3, h⟩ := bindS h
  refine sq_call hF pc24 rfl (by decide) (ok_mods_Apply k (u0 := []) (A0_0 := none) (c0_0 := 0) (u1 := ({ Kind := 1, Match := TCube.zero, Prio := 7, Acts := [], Idle := 0, Hard := 0, Owner := 1, Check := false } : TMod)) (hS.enter ⟨⟨1, rfl⟩, ⟨0, rfl⟩, trivial⟩) hx3) (fun v W hR a hF => ?_)
  obtain ⟨A4, c5, rfl, hT6⟩ := hR
  have hS := hS.join hT6
  refine sq_val (v_move hF rfl) hF (by decide) (fun a hF => ?_)
  refine sq_val (v_extract hF rfl rfl) hF (by decide) (fun a hF => ?_)
  refine sq_val (v_extract hF rfl rfl) hF (by decide) (fun a hF => ?_)
  refine sq_val (v_assign hF rfl) hF (by decide) (fun a hF => ?_)
  refine sq_val (v_assign hF rfl) hF (by decide) (fun a hF => ?_)
  refine sq_nil ?_
  refine then_n ?_
  refine wp_seq ?_
  refine wp_reg ?_
  refine sq_val (v_move hF rfl) hF (by decide) (fun a hF => ?_)
  refine sq_val (v_build (parts := [(0, .const (.int .i64 3)), (6, .const (.int .i64 1))]) (out := TMod.enc ({ Kind := 3, Match := TCube.zero, Prio := 0, Acts := [], Idle := 0, Hard := 0, Owner := 1, Check := false } : TMod) none 0) hF rfl rfl pz40 rfl pp40 rfl) hF (by decide) (fun a hF => ?_)
  have hS := hS.freeze (i := 0) rfl (posB rfl)
  have hS := hS.addFact (f := fSl k_TAct none 0 []) (SlR.nil _ _ _)
  obtain ⟨x7, hx8, h⟩ := bindS h
  refine sq_call hF pc24 rfl (by decide) (ok_mods_Apply k (u1 := ({ Kind := 3, Match := TCube.zero, Prio := 0, Acts := [], Idle := 0, Hard := 0, Owner := 1, Check := false } : TMod)) (hS.enter ⟨⟨1, rfl⟩, ⟨0, rfl⟩, trivial⟩) hx8) (fun v W hR a hF => ?_)
  obtain ⟨A9, c10, rfl, hT11⟩ := hR
  have hS := hS.join hT11
  refine sq_val (v_move hF rfl) hF (by decide) (fun a hF => ?_)
  refine sq_val (v_extract hF rfl rfl) hF (by decide) (fun a hF => ?_)
  refine sq_val (v_extract hF rfl rfl) hF (by decide) (fun a hF => ?_)
  refine sq_val (v_assign hF rfl) hF (by decide) (fun a hF => ?_)
  refine sq_val (v_assign hF rfl) hF (by decide) (fun a hF => ?_)
  refine sq_nil ?_
  refine then_n ?_
  refine wp_seq ?_
  refine wp_reg ?_
  refine sq_val (v_move hF rfl) hF (by decide) (fun a hF => ?_)
  refine sq_val (v_eql hF rfl rfl) hF (by decide) (fun a hF => ?_)
  refine sq_val (v_move hF rfl) hF (by decide) (fun a hF => ?_)
  refine sq_cut 3 (fun a W => FH 45 [(1, .pointer (some (⟨b1, 0, none⟩))), (2, .slice A4 ((x2.1).length) c5), (4, .slice A9 ((x7.1).length) c10), (23, .bool ((x2.2 == 0) && (x7.2 == 0)))] a ∧ St M w0 [⟨b1, TMod.enc ({ Kind := 1, Match := TCube.zero, Prio := 7, Acts := [], Idle := 0, Hard := 0, Owner := 1, Check := false } : TMod) none 0, 40⟩] [⟨k_TRule, 65, A9, c10, x7.1⟩] [fSl k_TAct none 0 [], fSl k_TRule A4 c5 x2.1, fSl k_TAct none 0 [], fSl k_TRule none 0 []] W) (fun a W hJ => ?_) ?_
  ·
   obtain ⟨hF, hS⟩ := hJ
   refine sq_val (v_move hF rfl) hF (by decide) (fun a hF => ?_)
   refine sq_cut 4 (fun a W => FH 45 [(1, .pointer (some (⟨b1, 0, none⟩))), (2, .slice A4 ((x2.1).length) c5), (4, .slice A9 ((x7.1).length) c10), (28, .bool (((x2.2 == 0) && (x7.2 == 0)) && ((x2.1.length : Int) == 1)))] a ∧ St M w0 [⟨b1, TMod.enc ({ Kind := 1, Match := TCube.zero, Prio := 7, Acts := [], Idle := 0, Hard := 0, Owner := 1, Check := false } : TMod) none 0, 40⟩] [⟨k_TRule, 65, A9, c10, x7.1⟩] [fSl k_TAct none 0 [], fSl k_TRule A4 c5 x2.1, fSl k_TAct none 0 [], fSl k_TRule none 0 []] W) (fun a W hJ => ?_) ?_
   ·
    obtain ⟨hF, hS⟩ := hJ
    refine sq_val (v_move hF rfl) hF (by decide) (fun a hF => ?_)
    obtain ⟨x15, h, hk17⟩ := bindS h
    refine sq_cut 6 (fun a W => FH 45 [(1, .pointer (some (⟨b1, 0, none⟩))), (4, .slice A9 ((x7.1).length) c10), (35, .bool x15)] a ∧ St M w0 [⟨b1, TMod.enc ({ Kind := 1, Match := TCube.zero, Prio := 7, Acts := [], Idle := 0, Hard := 0, Owner := 1, Check := false } : TMod) none 0, 40⟩] [⟨k_TRule, 65, A9, c10, x7.1⟩] [fSl k_TAct none 0 [], fSl k_TRule A4 c5 x2.1, fSl k_TAct none 0 [], fSl k_TRule none 0 []] W) (fun a W hJ => ?_) ?_
    ·
     have h := hk17
     obtain ⟨hF, hS⟩ := hJ
     refine sq_val (v_move hF rfl) hF (by decide) (fun a hF => ?_)
     refine sq_cut 4 (fun a W => FH 45 [(1, .pointer (some (⟨b1, 0, none⟩))), (40, .bool (x15 && ((x7.1.length : Int) == 0)))] a ∧ St M w0 [⟨b1, TMod.enc ({ Kind := 1, Match := TCube.zero, Prio := 7, Acts := [], Idle := 0, Hard := 0, Owner := 1, Check := false } : TMod) none 0, 40⟩] [⟨k_TRule, 65, A9, c10, x7.1⟩] [fSl k_TAct none 0 [], fSl k_TRule A4 c5 x2.1, fSl k_TAct none 0 [], fSl k_TRule none 0 []] W) (fun a W hJ => ?_) ?_
     ·
      obtain ⟨hF, hS⟩ := hJ
      refine sq_val (v_move hF rfl) hF (by decide) (fun a hF => ?_)
      obtain ⟨x29, h, hk31⟩ := bindS h
      refine sq_cut 3 (fun a W => FH 45 [(44, .bool x29)] a ∧ St M w0 [⟨b1, TMod.enc ({ Kind := 1, Match := TCube.zero, Prio := 7, Acts := [], Idle := 0, Hard := 0, Owner := 1, Check := false } : TMod) none 0, 40⟩] [⟨k_TRule, 65, A9, c10, x7.1⟩] [fSl k_TAct none 0 [], fSl k_TRule A4 c5 x2.1, fSl k_TAct none 0 [], fSl k_TRule none 0 []] W) (fun a W hJ => ?_) ?_
      ·
       have h := hk31
       obtain ⟨hF, hS⟩ := hJ
       refine sq_val (v_assign hF rfl) hF (by decide) (fun a hF => ?_)
       refine sq_nil ?_
       refine then_n ?_
       refine wp_ret ?_
       obtain rfl := Option.some.inj h
       exact ret1 hF rfl (rv_tmp hF rfl) ⟨_, rfl, rfl, (hS.keep (List.nil_sublist _) (List.nil_sublist _) trivial)⟩
      ·
       by_cases he28 : (x15 && ((x7.1.length : Int) == 0)) = true
       ·
        replace h := ifT he28 h
        refine sq_yes hF rfl rfl he28 ?_
        refine sq_val (v_load (cs := TMod.enc ({ Kind := 1, Match := TCube.zero, Prio := 7, Acts := [], Idle := 0, Hard := 0, Owner := 1, Check := false } : TMod) none 0) hF rfl pa40 ps40 (hS.bc (i := 0) rfl)) hF (by decide) (fun a hF => ?_)
        refine sq_yes hF rfl rfl he28 ?_
        have hS := hS.addFact (f := fSl k_TAct none 0 []) (SlR.nil _ _ _)
        obtain ⟨x32, hx33, h⟩ := bindS h
        refine sq_call hF pc27 rfl (by decide) (ok_mods_Sound k (u0 := ({ Kind := 1, Match := TCube.zero, Prio := 7, Acts := [], Idle := 0, Hard := 0, Owner := 1, Check := false } : TMod)) (hS.enter ⟨⟨0, rfl⟩, trivial⟩) hx33) (fun v W hR a hF => ?_)
        obtain ⟨rfl, hT34⟩ := hR
        have hS := hS.grow hT34.below
        refine sq_val (v_pick_t hF rfl he28 rfl) hF (by decide) (fun a hF => ?_)
        obtain rfl := Option.some.inj h
        exact sq_nil (then_j ⟨(hF.keep ⟨rfl, trivial⟩), (hS.keep (List.Sublist.refl _) (List.Sublist.refl _) ⟨⟨1, rfl⟩, ⟨2, rfl⟩, ⟨3, rfl⟩, ⟨4, rfl⟩, trivial⟩)⟩)
       ·
        have he28 : (x15 && ((x7.1.length : Int) == 0)) = false := nB he28
        replace h := ifF he28 h
        refine sq_no hF rfl rfl he28 (by rintro x ⟨⟩; decide) (fun a hF => ?_)
        refine sq_no hF rfl rfl he28 (by rintro x ⟨⟩; decide) (fun a hF => ?_)
        refine sq_val (v_pick_f hF rfl he28 rfl) hF (by decide) (fun a hF => ?_)
        obtain rfl := Option.some.inj h
        exact sq_nil (then_j ⟨(hF.keep ⟨rfl, trivial⟩), hS⟩)
     ·
      by_cases he27 : x15 = true
      ·
       refine sq_yes hF rfl rfl he27 ?_
       refine sq_val (v_move hF rfl) hF (by decide) (fun a hF => ?_)
       refine sq_yes hF rfl rfl he27 ?_
       refine sq_val (v_len hF rfl pu37) hF (by decide) (fun a hF => ?_)
       refine sq_yes hF rfl rfl he27 ?_
       refine sq_val (v_eql hF rfl rfl) hF (by decide) (fun a hF => ?_)
       refine sq_val (v_pick_t hF rfl he27 rfl) hF (by decide) (fun a hF => ?_)
       exact sq_nil (then_j ⟨(hF.keep ⟨rfl, (boolV (and_t he27)), trivial⟩), hS⟩)
      ·
       have he27 : x15 = false := nB he27
       refine sq_no hF rfl rfl he27 (by rintro x ⟨⟩; decide) (fun a hF => ?_)
       refine sq_no hF rfl rfl he27 (by rintro x ⟨⟩; decide) (fun a hF => ?_)
       refine sq_no hF rfl rfl he27 (by rintro x ⟨⟩; decide) (fun a hF => ?_)
       refine sq_val (v_pick_f hF rfl he27 rfl) hF (by decide) (fun a hF => ?_)
       exact sq_nil (then_j ⟨(hF.keep ⟨rfl, (boolV (and_f he27)), trivial⟩), hS⟩)
    ·
     by_cases he14 : (((x2.2 == 0) && (x7.2 == 0)) && ((x2.1.length : Int) == 1)) = true
     ·
      replace h := ifT he14 h
      refine sq_yes hF rfl rfl he14 ?_
      refine sq_val (v_move hF rfl) hF (by decide) (fun a hF => ?_)
      refine sq_yes hF rfl rfl he14 ?_
      obtain ⟨x18, hx19, h⟩ := bindS h
      obtain ⟨p20, cs21, hA22, hat23⟩ := SlR.at (hS.fc (i := 1) rfl) hx19
      obtain ⟨A24, c25, rfl, hs26⟩ := hat23.2.2.2
      have hS := hS.addFact (f := fAt k_TRule (p20.add ((0 : Int).toNat * 32)) (TRule.enc x18 A24 c25) x18) hat23
      have hS := hS.addFact (f := fSl k_TAct A24 c25 x18.Acts) hs26
      refine sq_val (v_idx hF rfl hA22 rfl psl37 hx19) hF (by decide) (fun a hF => ?_)
      refine sq_yes hF rfl rfl he14 ?_
      refine sq_val (v_fieldAddr hF rfl pf65_1) hF (by decide) (fun a hF => ?_)
      refine sq_yes hF rfl rfl he14 ?_
      refine sq_val (v_load1 hF rfl pa3 (cells_sub (vs := [.int .i64 (x18.Prio)]) (hS.pc (i := 1) rfl) rfl rfl)) hF (by decide) (fun a hF => ?_)
      refine sq_yes hF rfl rfl he14 ?_
      refine sq_val (v_eql hF rfl rfl) hF (by decide) (fun a hF => ?_)
      refine sq_val (v_pick_t hF rfl he14 rfl) hF (by decide) (fun a hF => ?_)
      obtain rfl := Option.some.inj h
      exact sq_nil (then_j ⟨(hF.keep ⟨rfl, rfl, rfl, trivial⟩), (hS.keep (List.Sublist.refl _) (List.Sublist.refl _) ⟨⟨2, rfl⟩, ⟨3, rfl⟩, ⟨4, rfl⟩, ⟨5, rfl⟩, trivial⟩)⟩)
     ·
      have he14 : (((x2.2 == 0) && (x7.2 == 0)) && ((x2.1.length : Int) == 1)) = false := nB he14
      replace h := ifF he14 h
      refine sq_no hF rfl rfl he14 (by rintro x ⟨⟩; decide) (fun a hF => ?_)
      refine sq_no hF rfl rfl he14 (by rintro x ⟨⟩; decide) (fun a hF => ?_)
      refine sq_no hF rfl rfl he14 (by rintro x ⟨⟩; decide) (fun a hF => ?_)
      refine sq_no hF rfl rfl he14 (by rintro x ⟨⟩; decide) (fun a hF => ?_)
      refine sq_no hF rfl rfl he14 (by rintro x ⟨⟩; decide) (fun a hF => ?_)
      refine sq_val (v_pick_f hF rfl he14 rfl) hF (by decide) (fun a hF => ?_)
      obtain rfl := Option.some.inj h
      exact sq_nil (then_j ⟨(hF.keep ⟨rfl, rfl, rfl, trivial⟩), hS⟩)
   ·
    by_cases he13 : ((x2.2 == 0) && (x7.2 == 0)) = true
    ·
     refine sq_yes hF rfl rfl he13 ?_
     refine sq_val (v_move hF rfl) hF (by decide) (fun a hF => ?_)
     refine sq_yes hF rfl rfl he13 ?_
     refine sq_val (v_len hF rfl pu37) hF (by decide) (fun a hF => ?_)
     refine sq_yes hF rfl rfl he13 ?_
     refine sq_val (v_eql hF rfl rfl) hF (by decide) (fun a hF => ?_)
     refine sq_val (v_pick_t hF rfl he13 rfl) hF (by decide) (fun a hF => ?_)
     exact sq_nil (then_j ⟨(hF.keep ⟨rfl, rfl, rfl, (boolV (and_t he13)), trivial⟩), hS⟩)
    ·
     have he13 : ((x2.2 == 0) && (x7.2 == 0)) = false := nB he13
     refine sq_no hF rfl rfl he13 (by rintro x ⟨⟩; decide) (fun a hF => ?_)
     refine sq_no hF rfl rfl he13 (by rintro x ⟨⟩; decide) (fun a hF => ?_)
     refine sq_no hF rfl rfl he13 (by rintro x ⟨⟩; decide) (fun a hF => ?_)
     refine sq_val (v_pick_f hF rfl he13 rfl) hF (by decide) (fun a hF => ?_)
     exact sq_nil (then_j ⟨(hF.keep ⟨rfl, rfl, rfl, (boolV (and_f he13)), trivial⟩), hS⟩)
  ·
   by_cases he12 : (x2.2 == 0) = true
   ·
    refine sq_yes hF rfl rfl he12 ?_
    refine sq_val (v_move hF rfl) hF (by decide) (fun a hF => ?_)
    refine sq_yes hF rfl rfl he12 ?_
    refine sq_val (v_eql hF rfl rfl) hF (by decide) (fun a hF => ?_)
    refine sq_val (v_pick_t hF rfl he12 rfl) hF (by decide) (fun a hF => ?_)
    exact sq_nil (then_j ⟨(hF.keep ⟨rfl, rfl, rfl, (boolV (and_t he12)), trivial⟩), hS⟩)
   ·
    have he12 : (x2.2 == 0) = false := nB he12
    refine sq_no hF rfl rfl he12 (by rintro x ⟨⟩; decide) (fun a hF => ?_)
    refine sq_no hF rfl rfl he12 (by rintro x ⟨⟩; decide) (fun a hF => ?_)
    refine sq_val (v_pick_f hF rfl he12 rfl) hF (by decide) (fun a hF => ?_)
    exact sq_nil (then_j ⟨(hF.keep ⟨rfl, rfl, rfl, (boolV (and_f he12)), trivial⟩), hS⟩)

theorem ok_ref01_Size {M : Nat → Prop} {w0 : World} {u0 : Int} {o : Int} (hS : St M w0 [] [] [] w0) (h : ref01_Size u0 = some o) :
    Calls Try.prog 110 #[.int .i64 (u0)] w0 fun e W' => ∃ v, e = .returned v ∧ (v = .int .i64 (o) ∧ St M w0 [] [] [] W') := by
  unfold ref01_Size at h
  refine calls_start (args := [.int .i64 (u0)]) Try.func110 rfl rfl (Nat.le_of_ble_eq_true rfl) (fun a hF => ?_)
  refine wp_seq ?_
  refine wp_reg ?_
  refine sq_val (v_assign hF rfl) hF (by decide) (fun a hF => ?_)
  refine sq_nil ?_
  refine then_n ?_
  refine wp_seq ?_
  refine wp_seq ?_
  refine wp_reg ?_
  refine sq_val (v_move hF rfl) hF (by decide) (fun a hF => ?_)
  refine sq_val (v_lss hF rfl rfl) hF (by decide) (fun a hF => ?_)
  refine sq_val (v_move hF rfl) hF (by decide) (fun a hF => ?_)
  refine sq_cut 3 (fun a W => FH 13 [(0, .int .i64 (u0)), (8, .bool ((decide (u0 < 0)) || (decide (11 < u0))))] a ∧ St M w0 [] [] [] W) (fun a W hJ => ?_) ?_
  ·
   obtain ⟨hF, hS⟩ := hJ
   refine sq_nil ?_
   refine then_n ?_
   refine wp_if hF rfl (fun he2 => ?_) (fun he2 => ?_)
   ·
    replace h := ifT he2 h
    refine wp_seq ?_
    refine wp_reg ?_
    refine sq_val (v_assign hF rfl) hF (by decide) (fun a hF => ?_)
    refine sq_nil ?_
    refine then_n ?_
    refine wp_ret ?_
    refine then_r ?_
    obtain rfl := Option.some.inj h
    exact ret1 hF rfl (rv_tmp hF rfl) ⟨_, rfl, rfl, hS⟩
   ·
    replace h := ifF he2 h
    refine wp_skip ?_
    refine then_n ?_
    refine wp_seq ?_
    refine wp_reg ?_
    refine sq_buildSlice (κ := (kInt .i64)) (xs := [.const (.int .i64 16), .const (.int .i64 48), .const (.int .i64 48), .const (.int .i64 16), .const (.int .i64 12), .const (.int .i64 4), .const (.int .i64 32), .const (.int .i64 32), .const (.int .i64 8), .const (.int .i64 8), .const (.int .i64 12), .const (.int .i64 12)]) (ys := [16, 48, 48, 16, 12, 4, 32, 32, 8, 8, 12, 12]) hF hS rfl rfl rfl (Els.cons rfl (Els.cons rfl (Els.cons rfl (Els.cons rfl (Els.cons rfl (Els.cons rfl (Els.cons rfl (Els.cons rfl (Els.cons rfl (Els.cons rfl (Els.cons rfl (Els.cons rfl (Els.nil _ _ _))))))))))))) rfl psl76 pz3 rfl (by decide) (by decide) (by decide) (fun A3 c4 a W hF hS => ?_)
    refine sq_val (v_move hF rfl) hF (by decide) (fun a hF => ?_)
    obtain ⟨x5, hx6, h⟩ := bindS h
    obtain ⟨p7, cs8, hA9, hc11, hr12⟩ := Row.ok.at (hS.rw_ (i := 0) rfl) hx6
    obtain rfl : cs8 = [.int .i64 (x5)] := hr12
    refine sq_val (v_idx hF rfl hA9 rfl psl76 hx6) hF (by decide) (fun a hF => ?_)
    refine sq_val (v_load1 hF rfl pa3 hc11) hF (by decide) (fun a hF => ?_)
    refine sq_val (v_assign hF rfl) hF (by decide) (fun a hF => ?_)
    refine sq_nil ?_
    refine then_n ?_
    refine wp_ret ?_
    obtain rfl := Option.some.inj h
    exact ret1 hF rfl (rv_tmp hF rfl) ⟨_, rfl, rfl, (hS.keep (List.Sublist.refl _) (List.nil_sublist _) trivial)⟩
  ·
   by_cases he1 : (decide (u0 < 0)) = true
   ·
    refine sq_no hF rfl rfl he1 (by rintro x ⟨⟩; decide) (fun a hF => ?_)
    refine sq_no hF rfl rfl he1 (by rintro x ⟨⟩; decide) (fun a hF => ?_)
    refine sq_val (v_pick_t hF rfl he1 rfl) hF (by decide) (fun a hF => ?_)
    exact sq_nil (then_j ⟨(hF.keep ⟨rfl, (boolV (or_t he1)), trivial⟩), hS⟩)
   ·
    have he1 : (decide (u0 < 0)) = false := nB he1
    refine sq_yes hF rfl rfl he1 ?_
    refine sq_val (v_move hF rfl) hF (by decide) (fun a hF => ?_)
    refine sq_yes hF rfl rfl he1 ?_
    refine sq_val (v_gtr hF rfl rfl) hF (by decide) (fun a hF => ?_)
    refine sq_val (v_pick_f hF rfl he1 rfl) hF (by decide) (fun a hF => ?_)
    exact sq_nil (then_j ⟨(hF.keep ⟨rfl, (boolV (or_f he1)), trivial⟩), hS⟩)

theorem ok_ref01_Fits {M : Nat → Prop} {w0 : World} {u0 : Int} {u1 : Int} {o : Bool} (hS : St M w0 [] [] [] w0) (h : ref01_Fits u0 u1 = some o) :
    Calls Try.prog 114 #[.int .u64 (u0), .int .i64 (u1)] w0 fun e W' => ∃ v, e = .returned v ∧ (v = .bool (o) ∧ St M w0 [] [] [] W') := by
  unfold ref01_Fits at h
  refine calls_start (args := [.int .u64 (u0), .int .i64 (u1)]) Try.func114 rfl rfl (Nat.le_of_ble_eq_true rfl) (fun a hF => ?_)
  refine wp_seq ?_
  refine wp_reg ?_
  refine sq_val (v_assign hF rfl) hF (by decide) (fun a hF => ?_)
  refine sq_nil ?_
  refine then_n ?_
  refine wp_seq ?_
  refine wp_reg ?_
  refine sq_val (v_move hF rfl) hF (by decide) (fun a hF => ?_)
  refine sq_val (v_move hF rfl) hF (by decide) (fun a hF => ?_)
  refine sq_val (v_convI hF rfl pu3 pu137) hF (by decide) (fun a hF => ?_)
  obtain ⟨hb1, h⟩ := ifS h
  refine sq_val (v_shl hF rfl rfl hb1) hF (by decide) (fun a hF => ?_)
  refine sq_val (v_lss hF rfl rfl) hF (by decide) (fun a hF => ?_)
  refine sq_val (v_assign hF rfl) hF (by decide) (fun a hF => ?_)
  refine sq_nil ?_
  refine then_n ?_
  refine wp_ret ?_
  obtain rfl := Option.some.inj h
  exact ret1 hF rfl (rv_tmp hF rfl) ⟨_, rfl, rfl, hS⟩

theorem ok_ref01_Head (k : Nat) {M : Nat → Prop} {w0 : World} {u0 : Arr 12} {o : Bool} (hS : St M w0 [] [] [] w0) (h : ref01_Head k u0 = some o) :
    Calls Try.prog 61 #[.agg (A12u64.enc u0).toArray] w0 fun e W' => ∃ v, e = .returned v ∧ (v = .bool (o) ∧ St M w0 [] [] [] W') := by
  unfold ref01_Head at h
  refine calls_start (args := [.agg (A12u64.enc u0).toArray]) Try.func61 rfl rfl (Nat.le_of_ble_eq_true rfl) (fun a hF => ?_)
  refine wp_seq ?_
  refine wp_reg ?_
  refine sq_box hF hS rfl rfl (by decide) (fun b1 a W hF hS => ?_)
  refine sq_val (v_assign hF rfl) hF (by decide) (fun a hF => ?_)
  refine sq_nil ?_
  refine then_n ?_
  refine wp_seq ?_
  refine wp_seq ?_
  refine wp_reg ?_
  refine sq_val (v_assign hF rfl) hF (by decide) (fun a hF => ?_)
  refine sq_nil ?_
  refine then_n ?_
  obtain ⟨o4, h, hk5⟩ := bindS h
  refine wp_join (fun a W => Lo.brk () = o4 ∧ FH 15 [] a ∧ St M w0 [] [] [] W) (fun a W hJ => ?_) ?_
  ·
   obtain ⟨rfl, hF, hS⟩ := hJ
   have h := hk5
   dsimp only at h
   refine then_n ?_
   refine wp_seq ?_
   refine wp_reg ?_
   refine sq_val (v_assign hF rfl) hF (by decide) (fun a hF => ?_)
   refine sq_nil ?_
   refine then_n ?_
   refine wp_ret ?_
   obtain rfl := Option.some.inj h
   exact ret1 hF rfl (rv_tmp hF rfl) ⟨_, rfl, rfl, hS⟩
  ·
   refine wp_block ?_
   refine wp_loop_fuel (I := fun m a W => ∃ (x3 : Int), FH 15 [(1, .pointer (some (⟨b1, 0, none⟩))), (3, .int .i64 (x3))] a ∧ St M w0 [⟨b1, A12u64.enc u0, 24⟩] [] [] W ∧ (ref01_Head.l0 k u0 m x3) = some o4) ?_ (k := k) ⟨0, (hF.keep ⟨rfl, rfl, trivial⟩), hS, h⟩
   rintro m6 a W ⟨x3, hF, hS, h⟩
   cases m6 with
   | zero => cases h
   | succ m6 =>
    rw [ref01_Head.l0] at h
    refine wp_seq ?_
    refine wp_seq ?_
    refine wp_reg ?_
    refine sq_val (v_move hF rfl) hF (by decide) (fun a hF => ?_)
    refine sq_val (v_lss hF rfl rfl) hF (by decide) (fun a hF => ?_)
    refine sq_nil ?_
    refine then_n ?_
    refine wp_if hF rfl (fun he7 => ?_) (fun he7 => ?_)
    ·
     replace h := ifT he7 h
     refine wp_skip ?_
     refine then_n ?_
     refine wp_seq ?_
     refine wp_block ?_
     refine wp_seq ?_
     refine wp_quiet rfl (by kernel_rfl) hS ?_
     refine qt_val (fun W hC => (v_move hF rfl)) hF (by decide) (fun a hF => ?_)
     obtain ⟨hb8, h⟩ := ifS h
     refine qt_val (fun W hC => (v_indexAddr hF rfl rfl par24 hb8.1 hb8.2)) hF (by decide) (fun a hF => ?_)
     refine qt_val (fun W hC => (v_load1 hF rfl pa22 (cells_sub (vs := [.int .u64 ((u0.at x3))]) (hC.2.bc (i := 0) rfl) rfl (A12u64.get u0 x3 hb8.1 hb8.2)))) hF (by decide) (fun a hF => ?_)
     refine qt_val (fun W hC => (v_move hF rfl)) hF (by decide) (fun a hF => ?_)
     obtain ⟨x9, hx10, h⟩ := bindS h
     refine qt_call hF pc110 rfl (by decide) (fun W hC => q_of hC (ok_ref01_Size (hC.2.enter trivial) hx10)) (fun a hF => ?_)
     obtain ⟨x11, hx12, h⟩ := bindS h
     refine qt_call hF pc114 rfl (by decide) (fun W hC => q_of hC (ok_ref01_Fits (hC.2.enter trivial) hx12)) (fun a hF => ?_)
     refine qt_val (fun W hC => (v_not hF rfl)) hF (by decide) (fun a hF => ?_)
     refine qt_nil ?_
     intro W hC
     have hS := hC.2
     refine then_n ?_
     refine wp_if hF rfl (fun he13 => ?_) (fun he13 => ?_)
     ·
      replace h := ifT he13 h
      refine wp_seq ?_
      refine wp_reg ?_
      refine sq_val (v_assign hF rfl) hF (by decide) (fun a hF => ?_)
      refine sq_nil ?_
      refine then_n ?_
      refine wp_ret ?_
      refine blk_r ?_
      refine then_r ?_
      refine then_r ?_
      refine blk_r ?_
      refine then_r ?_
      refine then_r ?_
      obtain rfl := Option.some.inj h
      have h := hk5
      dsimp only at h
      obtain rfl := Option.some.inj h
      exact ret1 hF rfl (rv_tmp hF rfl) ⟨_, rfl, rfl, (hS.keep (List.nil_sublist _) (List.Sublist.refl _) trivial)⟩
     ·
      replace h := ifF he13 h
      refine wp_skip ?_
      refine blk_n ?_
      refine then_n ?_
      refine wp_reg ?_
      refine sq_val (v_move hF rfl) hF (by decide) (fun a hF => ?_)
      refine sq_val (v_add hF rfl rfl) hF (by decide) (fun a hF => ?_)
      refine sq_val (v_assign hF rfl) hF (by decide) (fun a hF => ?_)
      refine sq_nil ?_
      exact then_j ⟨m6, Nat.lt_succ_self _, (IntKind.i64.wrap (x3 + 1)), (hF.keep ⟨rfl, rfl, trivial⟩), hS, h⟩
    ·
     replace h := ifF he7 h
     refine wp_exit ?_
     refine then_x ?_
     refine then_x ?_
     refine blk_hit ?_
     obtain rfl := Option.some.inj h
     exact then_j ⟨rfl, (hF.keep trivial), (hS.keep (List.nil_sublist _) (List.Sublist.refl _) trivial)⟩

theorem ok_ref01_Bits (k : Nat) {M : Nat → Prop} {w0 : World} {u0 : Int} {u1 : Int} {o : (List Bool)} (hS : St M w0 [] [] [] w0) (h : ref01_Bits k u0 u1 = some o) :
    Calls Try.prog 109 #[.int .u64 (u0), .int .i64 (u1)] w0 fun e W' => ∃ v, e = .returned v ∧ (∃ (A23 : Option Addr) (c24 : Nat), v = .slice A23 ((o).length) c24 ∧ St M w0 [] [⟨kBool, 4, A23, c24, o⟩] [] W') := by
  unfold ref01_Bits at h
  refine calls_start (args := [.int .u64 (u0), .int .i64 (u1)]) Try.func109 rfl rfl (Nat.le_of_ble_eq_true rfl) (fun a hF => ?_)
  refine wp_seq ?_
  refine wp_reg ?_
  refine sq_val (v_assign hF rfl) hF (by decide) (fun a hF => ?_)
  refine sq_nil ?_
  refine then_n ?_
  refine wp_seq ?_
  refine wp_reg ?_
  refine sq_val (v_assign hF rfl) hF (by decide) (fun a hF => ?_)
  refine sq_nil ?_
  refine then_n ?_
  refine wp_seq ?_
  refine wp_seq ?_
  refine wp_reg ?_
  refine sq_val (v_move hF rfl) hF (by decide) (fun a hF => ?_)
  refine sq_val (v_sub hF rfl rfl) hF (by decide) (fun a hF => ?_)
  refine sq_val (v_assign hF rfl) hF (by decide) (fun a hF => ?_)
  refine sq_nil ?_
  refine then_n ?_
  obtain ⟨o12, h, hk13⟩ := bindS h
  refine wp_join (fun a W => ∃ (x9 : List Bool) (A10 : Option Addr) (c11 : Nat), x9 = o12 ∧ FH 23 [(5, .slice A10 ((x9).length) c11)] a ∧ St M w0 [] [⟨kBool, 4, A10, c11, x9⟩] [] W) (fun a W hJ => ?_) ?_
  ·
   obtain ⟨x9, A10, c11, rfl, hF, hS⟩ := hJ
   have h := hk13
   refine then_n ?_
   refine wp_seq ?_
   refine wp_reg ?_
   refine sq_val (v_move hF rfl) hF (by decide) (fun a hF => ?_)
   refine sq_val (v_assign hF rfl) hF (by decide) (fun a hF => ?_)
   refine sq_nil ?_
   refine then_n ?_
   refine wp_ret ?_
   obtain rfl := Option.some.inj h
   exact ret1 hF rfl (rv_tmp hF rfl) ⟨_, rfl, A10, c11, rfl, hS⟩
  ·
   have hS := hS.addNil kBool 4
   refine wp_block ?_
   refine wp_loop_fuel (I := fun m a W => ∃ (x5 : List Bool) (x8 : Int) (A6 : Option Addr) (c7 : Nat), FH 23 [(0, .int .u64 (u0)), (5, .slice A6 ((x5).length) c7), (6, .int .i64 (x8))] a ∧ St M w0 [] [⟨kBool, 4, A6, c7, x5⟩] [] W ∧ (ref01_Bits.l0 k u0 m x5 x8) = some o12) ?_ (k := k) ⟨([]), (IntKind.i64.wrap (u1 - 1)), none, 0, (hF.keep ⟨rfl, rfl, rfl, trivial⟩), hS, h⟩
   rintro m14 a W ⟨x5, x8, A6, c7, hF, hS, h⟩
   cases m14 with
   | zero => cases h
   | succ m14 =>
    rw [ref01_Bits.l0] at h
    refine wp_seq ?_
    refine wp_seq ?_
    refine wp_reg ?_
    refine sq_val (v_move hF rfl) hF (by decide) (fun a hF => ?_)
    refine sq_val (v_geq hF rfl rfl) hF (by decide) (fun a hF => ?_)
    refine sq_nil ?_
    refine then_n ?_
    refine wp_if hF rfl (fun he15 => ?_) (fun he15 => ?_)
    ·
     replace h := ifT he15 h
     refine wp_skip ?_
     refine then_n ?_
     refine wp_seq ?_
     refine wp_block ?_
     refine wp_reg ?_
     refine sq_val (v_move hF rfl) hF (by decide) (fun a hF => ?_)
     refine sq_val (v_move hF rfl) hF (by decide) (fun a hF => ?_)
     refine sq_val (v_move hF rfl) hF (by decide) (fun a hF => ?_)
     refine sq_val (v_convI hF rfl pu3 pu137) hF (by decide) (fun a hF => ?_)
     obtain ⟨hb16, h⟩ := ifS h
     refine sq_val (v_shr hF rfl rfl hb16) hF (by decide) (fun a hF => ?_)
     refine sq_val (v_and hF rfl rfl) hF (by decide) (fun a hF => ?_)
     refine sq_val (v_eql hF rfl rfl) hF (by decide) (fun a hF => ?_)
     refine sq_buildSlice (κ := kBool) (xs := [.tmp 19]) (ys := [((bAnd .u64 (bShr .u64 u0 (IntKind.u64.wrap x8)) 1) == 1)]) hF hS rfl rfl rfl (Els.cons rfl (Els.nil _ _ _)) rfl psl116 pz4 rfl (by decide) (by decide) (by decide) (fun A17 c18 a W hF hS => ?_)
     obtain ⟨x21, hx22, h⟩ := bindS h
     refine sq_append (ys := ([((bAnd .u64 (bShr .u64 u0 (IntKind.u64.wrap x8)) 1) == 1)])) hF hS (i := 1) rfl rfl rfl (hS.rw_ (i := 0) rfl).src psl116 pb4 pz4 rfl (by decide) (by decide) hx22 (by decide) (fun A19 c20 a W hF hS => ?_)
     refine sq_val (v_assign hF rfl) hF (by decide) (fun a hF => ?_)
     refine sq_nil ?_
     refine blk_n ?_
     refine then_n ?_
     refine wp_reg ?_
     refine sq_val (v_move hF rfl) hF (by decide) (fun a hF => ?_)
     refine sq_val (v_sub hF rfl rfl) hF (by decide) (fun a hF => ?_)
     refine sq_val (v_assign hF rfl) hF (by decide) (fun a hF => ?_)
     refine sq_nil ?_
     exact then_j ⟨m14, Nat.lt_succ_self _, x21, (IntKind.i64.wrap (x8 - 1)), A19, c20, (hF.keep ⟨rfl, rfl, rfl, trivial⟩), (hS.keep (List.Sublist.refl _) (.cons _ (List.Sublist.refl _)) trivial), h⟩
    ·
     replace h := ifF he15 h
     refine wp_exit ?_
     refine then_x ?_
     refine then_x ?_
     refine blk_hit ?_
     obtain rfl := Option.some.inj h
     exact then_j ⟨x5, A6, c7, rfl, (hF.keep ⟨rfl, trivial⟩), hS⟩
end Go.Proofs.Ytangebngeeamoaa
