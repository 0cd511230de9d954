/- What calls of the Go functions come to. -/
import Derived.Test.YtangebngeeamoaaW4
set_option linter.unusedVariables false
set_option linter.unusedSimpArgs false
set_option maxRecDepth 100000
set_option maxHeartbeats 4000000
namespace Go.Proofs.Ytangebngeeamoaa
open Go.RowKit Go.Pod
theorem ok_mods_Apply (k : Nat) {M : Nat → Prop} {w0 : World} {u0 : List TRule} {A0_0 : Option Addr} {c0_0 : Nat} {u1 : TMod} {A1_0 : Option Addr} {c1_0 : Nat} {u2 : Int} {o : (List TRule) × Int} (hS : St M w0 [] [] [fSl k_TRule A0_0 c0_0 u0, fSl k_TAct A1_0 c1_0 u1.Acts] w0) (h : mods_Apply k u0 u1 u2 = some o) :
    Calls Try.prog 24 #[.slice A0_0 ((u0).length) c0_0, .agg (TMod.enc u1 A1_0 c1_0).toArray, .int .i64 (u2)] w0 fun e W' => ∃ v, e = .returned v ∧ (∃ (A83 : Option Addr) (c84 : Nat), v = .tuple #[.slice A83 ((o.1).length) c84, .int .i64 (o.2)] ∧ St M w0 [] [⟨k_TRule, 65, A83, c84, o.1⟩] [] W') := by
  unfold mods_Apply at h
  refine calls_start (args := [.slice A0_0 ((u0).length) c0_0, .agg (TMod.enc u1 A1_0 c1_0).toArray, .int .i64 (u2)]) Try.func24 rfl rfl (Nat.le_of_ble_eq_true rfl) (fun a hF => ?_)
  refine wp_seq ?_
  refine wp_reg ?_
  refine sq_box hF hS rfl rfl (by decide) (fun b1 a W hF hS => ?_)
  refine sq_val (v_assign hF rfl) hF (by decide) (fun a hF => ?_)
  refine sq_val (v_assign hF rfl) hF (by decide) (fun a hF => ?_)
  refine sq_nil ?_
  refine then_n ?_
  refine wp_seq ?_
  refine wp_seq ?_
  refine wp_reg ?_
  refine sq_val (v_move hF rfl) hF (by decide) (fun a hF => ?_)
  obtain ⟨x2, hx3, h⟩ := bindS h
  refine sq_call hF pc65 rfl (by decide) (ok_rule_Table k (hS.enter ⟨⟨0, rfl⟩, trivial⟩) hx3) (fun v W hR a hF => ?_)
  obtain ⟨rfl, hT4⟩ := hR
  have hS := hS.grow hT4.below
  refine sq_val (v_not hF rfl) hF (by decide) (fun a hF => ?_)
  refine sq_val (v_move hF rfl) hF (by decide) (fun a hF => ?_)
  obtain ⟨x6, h, hk8⟩ := bindS h
  refine sq_cut 4 (fun a W => FH 57 [(0, .slice A0_0 ((u0).length) c0_0), (2, .int .i64 (u2)), (4, .pointer (some (⟨b1, 0, none⟩))), (18, .bool x6)] a ∧ St M w0 [⟨b1, TMod.enc u1 A1_0 c1_0, 40⟩] [] [fSl k_TRule A0_0 c0_0 u0, fSl k_TAct A1_0 c1_0 u1.Acts] W) (fun a W hJ => ?_) ?_
  ·
   have h := hk8
   obtain ⟨hF, hS⟩ := hJ
   refine sq_nil ?_
   refine then_n ?_
   refine wp_if hF rfl (fun he12 => ?_) (fun he12 => ?_)
   ·
    replace h := ifT he12 h
    refine wp_seq ?_
    refine wp_reg ?_
    refine sq_val (v_assign hF rfl) hF (by decide) (fun a hF => ?_)
    refine sq_val (v_assign hF rfl) hF (by decide) (fun a hF => ?_)
    refine sq_nil ?_
    refine then_n ?_
    refine wp_ret ?_
    refine then_r ?_
    have hS := hS.addNil k_TRule 65
    obtain rfl := Option.some.inj h
    exact ret2 hF rfl (rv_tmp hF rfl) (rv_tmp hF rfl) ⟨_, rfl, none, 0, rfl, (hS.keep (List.nil_sublist _) (List.Sublist.refl _) trivial)⟩
   ·
    replace h := ifF he12 h
    refine wp_skip ?_
    refine then_n ?_
    refine wp_seq ?_
    refine wp_seq ?_
    refine wp_reg ?_
    refine sq_val (v_fieldAddr hF rfl pf40_0) hF (by decide) (fun a hF => ?_)
    refine sq_val (v_load1 hF rfl pa3 (cells_sub (vs := [.int .i64 (u1.Kind)]) (hS.bc (i := 0) rfl) rfl rfl)) hF (by decide) (fun a hF => ?_)
    refine sq_val (v_eql hF rfl rfl) hF (by decide) (fun a hF => ?_)
    refine sq_nil ?_
    refine then_n ?_
    refine wp_if hF rfl (fun he13 => ?_) (fun he13 => ?_)
    ·
     replace h := ifT he13 h
     refine wp_seq ?_
     refine wp_reg ?_
     refine sq_val (v_move hF rfl) hF (by decide) (fun a hF => ?_)
     refine sq_val (v_load (cs := TMod.enc u1 A1_0 c1_0) hF rfl pa40 ps40 (hS.bc (i := 0) rfl)) hF (by decide) (fun a hF => ?_)
     refine sq_val (v_move hF rfl) hF (by decide) (fun a hF => ?_)
     obtain ⟨x14, hx15, h⟩ := bindS h
     refine sq_call hF pc66 rfl (by decide) (ok_mods_add k (hS.enter ⟨⟨0, rfl⟩, ⟨1, rfl⟩, trivial⟩) hx15) (fun v W hR a hF => ?_)
     obtain ⟨A16, c17, rfl, hT18⟩ := hR
     have hS := hS.join hT18
     refine sq_val (v_extract hF rfl rfl) hF (by decide) (fun a hF => ?_)
     refine sq_val (v_extract hF rfl rfl) hF (by decide) (fun a hF => ?_)
     refine sq_val (v_assign hF rfl) hF (by decide) (fun a hF => ?_)
     refine sq_val (v_assign hF rfl) hF (by decide) (fun a hF => ?_)
     refine sq_nil ?_
     refine then_n ?_
     refine wp_ret ?_
     refine then_r ?_
     obtain rfl := Option.some.inj h
     exact ret2 hF rfl (rv_tmp hF rfl) (rv_tmp hF rfl) ⟨_, rfl, A16, c17, rfl, (hS.keep (List.nil_sublist _) (List.Sublist.refl _) trivial)⟩
    ·
     replace h := ifF he13 h
     refine wp_skip ?_
     refine then_n ?_
     refine wp_seq ?_
     refine wp_reg ?_
     refine sq_val (v_assign hF rfl) hF (by decide) (fun a hF => ?_)
     refine sq_nil ?_
     refine then_n ?_
     refine wp_seq ?_
     refine wp_seq ?_
     refine wp_reg ?_
     refine sq_val (v_move hF rfl) hF (by decide) (fun a hF => ?_)
     obtain ⟨x19, hx20, h⟩ := bindS h
     refine sq_call hF pc67 rfl (by decide) (ok_rule_Copy k (hS.enter ⟨⟨0, rfl⟩, trivial⟩) hx20) (fun v W hR a hF => ?_)
     obtain ⟨A21, c22, rfl, hT23⟩ := hR
     have hS := hS.join hT23
     refine sq_val (v_len hF rfl pu37) hF (by decide) (fun a hF => ?_)
     refine sq_val (v_move hF rfl) hF (by decide) (fun a hF => ?_)
     refine sq_nil ?_
     refine then_n ?_
     obtain ⟨o35, h, hk36⟩ := bindS h
     refine wp_join (fun a W => ∃ (x32 : List TRule) (A33 : Option Addr) (c34 : Nat), x32 = o35 ∧ FH 57 [(8, .slice A33 ((x32).length) c34)] a ∧ St M w0 [] [⟨k_TRule, 65, A33, c34, x32⟩] [] W) (fun a W hJ => ?_) ?_
     ·
      obtain ⟨x32, A33, c34, rfl, hF, hS⟩ := hJ
      have h := hk36
      refine then_n ?_
      refine wp_seq ?_
      refine wp_reg ?_
      refine sq_val (v_move hF rfl) hF (by decide) (fun a hF => ?_)
      refine sq_val (v_assign hF rfl) hF (by decide) (fun a hF => ?_)
      refine sq_val (v_assign hF rfl) hF (by decide) (fun a hF => ?_)
      refine sq_nil ?_
      refine then_n ?_
      refine wp_ret ?_
      obtain rfl := Option.some.inj h
      exact ret2 hF rfl (rv_tmp hF rfl) (rv_tmp hF rfl) ⟨_, rfl, A33, c34, rfl, hS⟩
     ·
      have hS := hS.addNil k_TRule 65
      refine wp_block ?_
      refine wp_loop_fuel (I := fun m a W => ∃ (x28 : List TRule) (x31 : Int) (A29 : Option Addr) (c30 : Nat), FH 57 [(4, .pointer (some (⟨b1, 0, none⟩))), (8, .slice A29 ((x28).length) c30), (29, .slice A21 ((x19).length) c22), (30, .int .i64 ((x19.length : Int))), (31, .int .i64 (x31))] a ∧ St M w0 [⟨b1, TMod.enc u1 A1_0 c1_0, 40⟩] [⟨k_TRule, 65, A29, c30, x28⟩, ⟨k_TRule, 65, A21, c22, x19⟩] [fSl k_TAct A1_0 c1_0 u1.Acts] W ∧ (mods_Apply.l0 k u1 x19 m x28 x31) = some o35) ?_ (k := k) ⟨([]), 0, none, 0, (hF.keep ⟨rfl, rfl, rfl, rfl, rfl, trivial⟩), (hS.keep (List.Sublist.refl _) (List.Sublist.refl _) ⟨⟨1, rfl⟩, trivial⟩), h⟩
      rintro m37 a W ⟨x28, x31, A29, c30, hF, hS, h⟩
      cases m37 with
      | zero => cases h
      | succ m37 =>
       rw [mods_Apply.l0] at h
       refine wp_seq ?_
       refine wp_reg ?_
       refine sq_val (v_lss hF rfl rfl) hF (by decide) (fun a hF => ?_)
       refine sq_nil ?_
       refine then_n ?_
       refine wp_seq ?_
       refine wp_if hF rfl (fun he38 => ?_) (fun he38 => ?_)
       ·
        replace h := ifT he38 h
        refine wp_skip ?_
        refine then_n ?_
        refine wp_seq ?_
        obtain ⟨o42, h, hk43⟩ := bindS h
        refine wp_join (fun a W => ∃ (x39 : List TRule) (A40 : Option Addr) (c41 : Nat), x39 = o42 ∧ FH 57 [(4, .pointer (some (⟨b1, 0, none⟩))), (8, .slice A40 ((x39).length) c41), (29, .slice A21 ((x19).length) c22), (30, .int .i64 ((x19.length : Int))), (31, .int .i64 (x31))] a ∧ St M w0 [⟨b1, TMod.enc u1 A1_0 c1_0, 40⟩] [⟨k_TRule, 65, A40, c41, x39⟩, ⟨k_TRule, 65, A21, c22, x19⟩] [fSl k_TAct A1_0 c1_0 u1.Acts] W) (fun a W hJ => ?_) ?_
        ·
         obtain ⟨x39, A40, c41, rfl, hF, hS⟩ := hJ
         have h := hk43
         refine then_n ?_
         refine wp_reg ?_
         refine sq_val (v_add hF rfl rfl) hF (by decide) (fun a hF => ?_)
         refine sq_val (v_move hF rfl) hF (by decide) (fun a hF => ?_)
         refine sq_nil ?_
         exact then_j ⟨m37, Nat.lt_succ_self _, x39, (IntKind.i64.wrap (x31 + 1)), A40, c41, (hF.keep ⟨rfl, rfl, rfl, rfl, rfl, trivial⟩), hS, h⟩
        ·
         refine wp_block ?_
         refine wp_seq ?_
         refine wp_reg ?_
         obtain ⟨x44, hx45, h⟩ := bindS h
         obtain ⟨p46, cs47, hA48, hc50, hr51⟩ := Row.ok.at (hS.rw_ (i := 1) rfl) hx45
         obtain ⟨A52, c53, rfl, hs54⟩ := hr51
         have hS := hS.addFact (f := fSl k_TAct A52 c53 x44.Acts) hs54
         refine sq_val (v_idx hF rfl hA48 rfl psl37 hx45) hF (by decide) (fun a hF => ?_)
         refine sq_val (v_load (cs := TRule.enc x44 A52 c53) hF rfl pa65 ps65 hc50) hF (by decide) (fun a hF => ?_)
         refine sq_alloc hF hS pz65 rfl (by decide) (fun b55 a W hF hS => ?_)
         refine sq_store (o := 0) (vs := TRule.enc x44 A52 c53) (cs' := TRule.enc x44 A52 c53) hF hS rfl rfl (i := 0) rfl rfl rfl ps65 (TRule.enc_one _ _ _) (Nat.le_of_ble_eq_true rfl) rfl (fun W hS => ?_)
         refine sq_nil ?_
         refine then_n ?_
         refine wp_seq ?_
         refine wp_seq ?_
         refine wp_reg ?_
         refine sq_val (v_load (cs := TMod.enc u1 A1_0 c1_0) hF rfl pa40 ps40 (hS.bc (i := 1) rfl)) hF (by decide) (fun a hF => ?_)
         refine sq_val (v_load (cs := TRule.enc x44 A52 c53) hF rfl pa65 ps65 (hS.bc (i := 0) rfl)) hF (by decide) (fun a hF => ?_)
         obtain ⟨x56, hx57, h⟩ := bindS h
         refine sq_call hF pc68 rfl (by decide) (ok_mods_touches k (hS.enter ⟨⟨1, rfl⟩, ⟨0, rfl⟩, trivial⟩) hx57) (fun v W hR a hF => ?_)
         obtain ⟨rfl, hT58⟩ := hR
         have hS := hS.grow hT58.below
         refine sq_nil ?_
         refine then_n ?_
         refine wp_if hF rfl (fun he59 => ?_) (fun he59 => ?_)
         ·
          replace h := ifT he59 h
          refine wp_seq ?_
          refine wp_seq ?_
          refine wp_reg ?_
          refine sq_val (v_fieldAddr hF rfl pf40_0) hF (by decide) (fun a hF => ?_)
          refine sq_val (v_load1 hF rfl pa3 (cells_sub (vs := [.int .i64 (u1.Kind)]) (hS.bc (i := 1) rfl) rfl rfl)) hF (by decide) (fun a hF => ?_)
          refine sq_val (v_eql hF rfl rfl) hF (by decide) (fun a hF => ?_)
          refine sq_val (v_move hF rfl) hF (by decide) (fun a hF => ?_)
          refine sq_cut 4 (fun a W => FH 57 [(4, .pointer (some (⟨b1, 0, none⟩))), (8, .slice A29 ((x28).length) c30), (10, .pointer (some (⟨b55, 0, none⟩))), (29, .slice A21 ((x19).length) c22), (30, .int .i64 ((x19.length : Int))), (31, .int .i64 (x31)), (45, .bool ((u1.Kind == 3) || (u1.Kind == 5)))] a ∧ St M w0 [⟨b55, TRule.enc x44 A52 c53, 65⟩, ⟨b1, TMod.enc u1 A1_0 c1_0, 40⟩] [⟨k_TRule, 65, A29, c30, x28⟩, ⟨k_TRule, 65, A21, c22, x19⟩] [fSl k_TAct A52 c53 x44.Acts, fSl k_TAct A1_0 c1_0 u1.Acts] W) (fun a W hJ => ?_) ?_
          ·
           obtain ⟨hF, hS⟩ := hJ
           refine sq_nil ?_
           refine then_n ?_
           refine wp_if hF rfl (fun he61 => ?_) (fun he61 => ?_)
           ·
            replace h := ifT he61 h
            refine wp_exit ?_
            refine then_x ?_
            refine then_x ?_
            refine blk_hit ?_
            obtain rfl := Option.some.inj h
            exact then_j ⟨x28, A29, c30, rfl, (hF.keep ⟨rfl, rfl, rfl, rfl, rfl, trivial⟩), (hS.keep (.cons _ (List.Sublist.refl _)) (List.Sublist.refl _) ⟨⟨1, rfl⟩, trivial⟩)⟩
           ·
            replace h := ifF he61 h
            refine wp_skip ?_
            refine then_n ?_
            refine wp_reg ?_
            refine sq_val (v_fieldAddr hF rfl pf40_3) hF (by decide) (fun a hF => ?_)
            refine sq_val (v_load1 hF rfl pa38 (cells_sub (vs := [.slice A1_0 ((u1.Acts).length) c1_0]) (hS.bc (i := 1) rfl) rfl rfl)) hF (by decide) (fun a hF => ?_)
            obtain ⟨x62, hx63, h⟩ := bindS h
            refine sq_call hF pc70 rfl (by decide) (ok_slices_Clone_Act (hS.enter ⟨⟨1, rfl⟩, trivial⟩) hx63) (fun v W hR a hF => ?_)
            obtain ⟨A64, c65, rfl, hT66⟩ := hR
            have hS := hS.join hT66
            obtain ⟨x67, hx68, h⟩ := bindS h
            refine sq_call hF pc69 rfl (by decide) (ok_slices_Clip_Act hS hx68) (fun v W hR a hF => ?_)
            obtain ⟨A69, c70, rfl, hS⟩ := hR
            refine sq_val (v_fieldAddr hF rfl pf65_2) hF (by decide) (fun a hF => ?_)
            have hS := hS.freeze (i := 0) rfl (posB rfl)
            refine sq_store (o := 25) (vs := [.slice A69 ((x67).length) c70]) (cs' := TRule.enc (TRule.setActs x44 x67) A69 c70) hF hS rfl rfl (i := 0) rfl rfl rfl ps38 (one1 rfl) (Nat.le_of_ble_eq_true rfl) rfl (fun W hS => ?_)
            refine sq_nil ?_
            refine then_n ?_
            refine wp_reg ?_
            refine sq_val (v_move hF rfl) hF (by decide) (fun a hF => ?_)
            refine sq_val (v_load (cs := TRule.enc (TRule.setActs x44 x67) A69 c70) hF rfl pa65 ps65 (hS.bc (i := 0) rfl)) hF (by decide) (fun a hF => ?_)
            refine sq_buildSlice (κ := k_TRule) (xs := [.tmp 52]) (ys := [(TRule.setActs x44 x67)]) hF hS rfl rfl rfl (Els.cons ⟨A69, c70, rfl, (hS.fc (i := 0) rfl)⟩ (Els.nil _ _ _)) rfl psl37 pz65 rfl (by decide) (by decide) (by decide) (fun A71 c72 a W hF hS => ?_)
            obtain ⟨x75, hx76, h⟩ := bindS h
            refine sq_append (ys := ([(TRule.setActs x44 x67)])) hF hS (i := 1) rfl rfl rfl (hS.rw_ (i := 0) rfl).src psl37 pb65 pz65 rfl (by decide) (by decide) hx76 (by decide) (fun A73 c74 a W hF hS => ?_)
            refine sq_val (v_assign hF rfl) hF (by decide) (fun a hF => ?_)
            refine sq_nil ?_
            refine blk_n ?_
            obtain rfl := Option.some.inj h
            exact then_j ⟨x75, A73, c74, rfl, (hF.keep ⟨rfl, rfl, rfl, rfl, rfl, trivial⟩), (hS.keep (.cons _ (List.Sublist.refl _)) (.cons _ (List.Sublist.refl _)) ⟨⟨2, rfl⟩, trivial⟩)⟩
          ·
           by_cases he60 : (u1.Kind == 3) = true
           ·
            refine sq_no hF rfl rfl he60 (by rintro x ⟨⟩; decide) (fun a hF => ?_)
            refine sq_no hF rfl rfl he60 (by rintro x ⟨⟩; decide) (fun a hF => ?_)
            refine sq_no hF rfl rfl he60 (by rintro x ⟨⟩; decide) (fun a hF => ?_)
            refine sq_val (v_pick_t hF rfl he60 rfl) hF (by decide) (fun a hF => ?_)
            exact sq_nil (then_j ⟨(hF.keep ⟨rfl, rfl, rfl, rfl, rfl, rfl, (boolV (or_t he60)), trivial⟩), hS⟩)
           ·
            have he60 : (u1.Kind == 3) = false := nB he60
            refine sq_yes hF rfl rfl he60 ?_
            refine sq_val (v_fieldAddr hF rfl pf40_0) hF (by decide) (fun a hF => ?_)
            refine sq_yes hF rfl rfl he60 ?_
            refine sq_val (v_load1 hF rfl pa3 (cells_sub (vs := [.int .i64 (u1.Kind)]) (hS.bc (i := 1) rfl) rfl rfl)) hF (by decide) (fun a hF => ?_)
            refine sq_yes hF rfl rfl he60 ?_
            refine sq_val (v_eql hF rfl rfl) hF (by decide) (fun a hF => ?_)
            refine sq_val (v_pick_f hF rfl he60 rfl) hF (by decide) (fun a hF => ?_)
            exact sq_nil (then_j ⟨(hF.keep ⟨rfl, rfl, rfl, rfl, rfl, rfl, (boolV (or_f he60)), trivial⟩), hS⟩)
         ·
          replace h := ifF he59 h
          refine wp_skip ?_
          refine then_n ?_
          refine wp_reg ?_
          refine sq_val (v_move hF rfl) hF (by decide) (fun a hF => ?_)
          refine sq_val (v_load (cs := TRule.enc x44 A52 c53) hF rfl pa65 ps65 (hS.bc (i := 0) rfl)) hF (by decide) (fun a hF => ?_)
          refine sq_buildSlice (κ := k_TRule) (xs := [.tmp 52]) (ys := [x44]) hF hS rfl rfl rfl (Els.cons ⟨A52, c53, rfl, (hS.fc (i := 0) rfl)⟩ (Els.nil _ _ _)) rfl psl37 pz65 rfl (by decide) (by decide) (by decide) (fun A77 c78 a W hF hS => ?_)
          obtain ⟨x81, hx82, h⟩ := bindS h
          refine sq_append (ys := ([x44])) hF hS (i := 1) rfl rfl rfl (hS.rw_ (i := 0) rfl).src psl37 pb65 pz65 rfl (by decide) (by decide) hx82 (by decide) (fun A79 c80 a W hF hS => ?_)
          refine sq_val (v_assign hF rfl) hF (by decide) (fun a hF => ?_)
          refine sq_nil ?_
          refine blk_n ?_
          obtain rfl := Option.some.inj h
          exact then_j ⟨x81, A79, c80, rfl, (hF.keep ⟨rfl, rfl, rfl, rfl, rfl, trivial⟩), (hS.keep (.cons _ (List.Sublist.refl _)) (.cons _ (List.Sublist.refl _)) ⟨⟨1, rfl⟩, trivial⟩)⟩
       ·
        replace h := ifF he38 h
        refine wp_exit ?_
        refine then_x ?_
        refine then_x ?_
        refine blk_hit ?_
        obtain rfl := Option.some.inj h
        exact then_j ⟨x28, A29, c30, rfl, (hF.keep ⟨rfl, trivial⟩), (hS.keep (List.nil_sublist _) (.cons_cons _ (List.nil_sublist _)) trivial)⟩
  ·
   by_cases he5 : (!x2) = true
   ·
    replace h := ifT he5 h
    refine sq_no hF rfl rfl he5 (by rintro x ⟨⟩; decide) (fun a hF => ?_)
    refine sq_no hF rfl rfl he5 (by rintro x ⟨⟩; decide) (fun a hF => ?_)
    refine sq_no hF rfl rfl he5 (by rintro x ⟨⟩; decide) (fun a hF => ?_)
    refine sq_val (v_pick_t hF rfl he5 rfl) hF (by decide) (fun a hF => ?_)
    obtain rfl := Option.some.inj h
    exact sq_nil (then_j ⟨(hF.keep ⟨rfl, rfl, rfl, rfl, trivial⟩), hS⟩)
   ·
    have he5 : (!x2) = false := nB he5
    replace h := ifF he5 h
    refine sq_yes hF rfl rfl he5 ?_
    refine sq_val (v_load (cs := TMod.enc u1 A1_0 c1_0) hF rfl pa40 ps40 (hS.bc (i := 0) rfl)) hF (by decide) (fun a hF => ?_)
    refine sq_yes hF rfl rfl he5 ?_
    obtain ⟨x9, hx10, h⟩ := bindS h
    refine sq_call hF pc27 rfl (by decide) (ok_mods_Sound k (hS.enter ⟨⟨1, rfl⟩, trivial⟩) hx10) (fun v W hR a hF => ?_)
    obtain ⟨rfl, hT11⟩ := hR
    have hS := hS.grow hT11.below
    refine sq_yes hF rfl rfl he5 ?_
    refine sq_val (v_not hF rfl) hF (by decide) (fun a hF => ?_)
    refine sq_val (v_pick_f hF rfl he5 rfl) hF (by decide) (fun a hF => ?_)
    obtain rfl := Option.some.inj h
    exact sq_nil (then_j ⟨(hF.keep ⟨rfl, rfl, rfl, rfl, trivial⟩), hS⟩)

theorem ok_slices_Equal_Act (k : Nat) {M : Nat → Prop} {w0 : World} {u0 : List TAct} {A0_0 : Option Addr} {c0_0 : Nat} {u1 : List TAct} {A1_0 : Option Addr} {c1_0 : Nat} {o : Bool} (hS : St M w0 [] [] [fSl k_TAct A0_0 c0_0 u0, fSl k_TAct A1_0 c1_0 u1] w0) (h : slices_Equal_Act k u0 u1 = some o) :
    Calls Try.prog 199 #[.slice A0_0 ((u0).length) c0_0, .slice A1_0 ((u1).length) c1_0] w0 fun e W' => ∃ v, e = .returned v ∧ (v = .bool (o) ∧ St M w0 [] [] [] W') := by
  unfold slices_Equal_Act at h
  refine calls_start (args := [.slice A0_0 ((u0).length) c0_0, .slice A1_0 ((u1).length) c1_0]) Try.func199 rfl rfl (Nat.le_of_ble_eq_true rfl) (fun a hF => ?_)
  refine wp_seq ?_
  refine wp_reg ?_
  refine sq_val (v_assign hF rfl) hF (by decide) (fun a hF => ?_)
  refine sq_nil ?_
  refine then_n ?_
  refine wp_seq ?_
  refine wp_seq ?_
  refine wp_reg ?_
  refine sq_val (v_move hF rfl) hF (by decide) (fun a hF => ?_)
  refine sq_val (v_len hF rfl pu38) hF (by decide) (fun a hF => ?_)
  refine sq_val (v_move hF rfl) hF (by decide) (fun a hF => ?_)
  refine sq_val (v_len hF rfl pu38) hF (by decide) (fun a hF => ?_)
  refine sq_val (v_neq hF rfl rfl) hF (by decide) (fun a hF => ?_)
  refine sq_nil ?_
  refine then_n ?_
  refine wp_if hF rfl (fun he1 => ?_) (fun he1 => ?_)
  ·
   replace h := ifT he1 h
   refine wp_seq ?_
   refine wp_reg ?_
   refine sq_val (v_assign hF rfl) hF (by decide) (fun a hF => ?_)
   refine sq_nil ?_
   refine then_n ?_
   refine wp_ret ?_
   refine then_r ?_
   obtain rfl := Option.some.inj h
   exact ret1 hF rfl (rv_tmp hF rfl) ⟨_, rfl, rfl, (hS.keep (List.Sublist.refl _) (List.Sublist.refl _) trivial)⟩
  ·
   replace h := ifF he1 h
   refine wp_skip ?_
   refine then_n ?_
   refine wp_seq ?_
   refine wp_seq ?_
   refine wp_reg ?_
   refine sq_val (v_move hF rfl) hF (by decide) (fun a hF => ?_)
   refine sq_val (v_len hF rfl pu38) hF (by decide) (fun a hF => ?_)
   refine sq_val (v_move hF rfl) hF (by decide) (fun a hF => ?_)
   refine sq_nil ?_
   refine then_n ?_
   obtain ⟨o4, h, hk5⟩ := bindS h
   refine wp_join (fun a W => Lo.brk () = o4 ∧ FH 26 [] a ∧ St M w0 [] [] [] W) (fun a W hJ => ?_) ?_
   ·
    obtain ⟨rfl, hF, hS⟩ := hJ
    have h := hk5
    dsimp only at h
    refine then_n ?_
    refine wp_seq ?_
    refine wp_reg ?_
    refine sq_val (v_assign hF rfl) hF (by decide) (fun a hF => ?_)
    refine sq_nil ?_
    refine then_n ?_
    refine wp_ret ?_
    obtain rfl := Option.some.inj h
    exact ret1 hF rfl (rv_tmp hF rfl) ⟨_, rfl, rfl, hS⟩
   ·
    refine wp_block ?_
    refine wp_loop_fuel (I := fun m a W => ∃ (x3 : Int), FH 26 [(0, .slice A0_0 ((u0).length) c0_0), (1, .slice A1_0 ((u1).length) c1_0), (12, .int .i64 ((u0.length : Int))), (13, .int .i64 (x3))] a ∧ St M w0 [] [] [fSl k_TAct A0_0 c0_0 u0, fSl k_TAct A1_0 c1_0 u1] W ∧ (slices_Equal_Act.l0 k u0 u1 m x3) = some o4) ?_ (k := k) ⟨0, (hF.keep ⟨rfl, rfl, rfl, rfl, trivial⟩), hS, h⟩
    rintro m6 a W ⟨x3, hF, hS, h⟩
    cases m6 with
    | zero => cases h
    | succ m6 =>
     rw [slices_Equal_Act.l0] at h
     refine wp_seq ?_
     refine wp_reg ?_
     refine sq_val (v_lss hF rfl rfl) hF (by decide) (fun a hF => ?_)
     refine sq_nil ?_
     refine then_n ?_
     refine wp_seq ?_
     refine wp_if hF rfl (fun he7 => ?_) (fun he7 => ?_)
     ·
      replace h := ifT he7 h
      refine wp_skip ?_
      refine then_n ?_
      refine wp_seq ?_
      refine wp_block ?_
      refine wp_seq ?_
      refine wp_reg ?_
      refine sq_val (v_move hF rfl) hF (by decide) (fun a hF => ?_)
      refine sq_val (v_assign hF rfl) hF (by decide) (fun a hF => ?_)
      refine sq_nil ?_
      refine then_n ?_
      refine wp_seq ?_
      refine wp_quiet rfl (by kernel_rfl) hS ?_
      refine qt_val (fun W hC => (v_move hF rfl)) hF (by decide) (fun a hF => ?_)
      refine qt_val (fun W hC => (v_move hF rfl)) hF (by decide) (fun a hF => ?_)
      obtain ⟨x8, hx9, h⟩ := bindS h
      obtain ⟨p10, cs11, hA12, hat13⟩ := SlR.at (hS.fc (i := 0) rfl) hx9
      obtain rfl : cs11 = TAct.enc x8 := hat13.2.2.2
      refine qt_val (fun W hC => (v_idx hF rfl hA12 rfl psl38 hx9)) hF (by decide) (fun a hF => ?_)
      refine qt_val (fun W hC => (v_load (cs := TAct.enc x8) hF rfl pa94 ps94 (hat13.2.2.1.grow hC.1))) hF (by decide) (fun a hF => ?_)
      refine qt_val (fun W hC => (v_move hF rfl)) hF (by decide) (fun a hF => ?_)
      refine qt_val (fun W hC => (v_move hF rfl)) hF (by decide) (fun a hF => ?_)
      obtain ⟨x14, hx15, h⟩ := bindS h
      obtain ⟨p16, cs17, hA18, hat19⟩ := SlR.at (hS.fc (i := 1) rfl) hx15
      obtain rfl : cs17 = TAct.enc x14 := hat19.2.2.2
      refine qt_val (fun W hC => (v_idx hF rfl hA18 rfl psl38 hx15)) hF (by decide) (fun a hF => ?_)
      refine qt_val (fun W hC => (v_load (cs := TAct.enc x14) hF rfl pa94 ps94 (hat19.2.2.1.grow hC.1))) hF (by decide) (fun a hF => ?_)
      refine qt_val (fun W hC => (eq94 hF rfl rfl).2) hF (by decide) (fun a hF => ?_)
      refine qt_nil ?_
      intro W hC
      have hS := hC.2
      refine then_n ?_
      refine wp_if hF rfl (fun he20 => ?_) (fun he20 => ?_)
      ·
       replace h := ifT he20 h
       refine wp_seq ?_
       refine wp_reg ?_
       refine sq_val (v_assign hF rfl) hF (by decide) (fun a hF => ?_)
       refine sq_nil ?_
       refine then_n ?_
       refine wp_ret ?_
       refine blk_r ?_
       refine then_r ?_
       refine then_r ?_
       refine blk_r ?_
       refine then_r ?_
       refine then_r ?_
       obtain rfl := Option.some.inj h
       have h := hk5
       dsimp only at h
       obtain rfl := Option.some.inj h
       exact ret1 hF rfl (rv_tmp hF rfl) ⟨_, rfl, rfl, (hS.keep (List.Sublist.refl _) (List.Sublist.refl _) trivial)⟩
      ·
       replace h := ifF he20 h
       refine wp_skip ?_
       refine blk_n ?_
       refine then_n ?_
       refine wp_reg ?_
       refine sq_val (v_add hF rfl rfl) hF (by decide) (fun a hF => ?_)
       refine sq_val (v_move hF rfl) hF (by decide) (fun a hF => ?_)
       refine sq_nil ?_
       exact then_j ⟨m6, Nat.lt_succ_self _, (IntKind.i64.wrap (x3 + 1)), (hF.keep ⟨rfl, rfl, rfl, rfl, trivial⟩), hS, h⟩
     ·
      replace h := ifF he7 h
      refine wp_exit ?_
      refine then_x ?_
      refine then_x ?_
      refine blk_hit ?_
      obtain rfl := Option.some.inj h
      exact then_j ⟨rfl, (hF.keep trivial), (hS.keep (List.Sublist.refl _) (List.Sublist.refl _) trivial)⟩

theorem ok_act_Same (k : Nat) {M : Nat → Prop} {w0 : World} {u0 : List TAct} {A0_0 : Option Addr} {c0_0 : Nat} {u1 : List TAct} {A1_0 : Option Addr} {c1_0 : Nat} {o : Bool} (hS : St M w0 [] [] [fSl k_TAct A0_0 c0_0 u0, fSl k_TAct A1_0 c1_0 u1] w0) (h : act_Same k u0 u1 = some o) :
    Calls Try.prog 185 #[.slice A0_0 ((u0).length) c0_0, .slice A1_0 ((u1).length) c1_0] w0 fun e W' => ∃ v, e = .returned v ∧ (v = .bool (o) ∧ St M w0 [] [] [] W') := by
  unfold act_Same at h
  refine calls_start (args := [.slice A0_0 ((u0).length) c0_0, .slice A1_0 ((u1).length) c1_0]) Try.func185 rfl rfl (Nat.le_of_ble_eq_true rfl) (fun a hF => ?_)
  refine wp_seq ?_
  refine wp_reg ?_
  refine sq_val (v_assign hF rfl) hF (by decide) (fun a hF => ?_)
  refine sq_nil ?_
  refine then_n ?_
  refine wp_seq ?_
  refine wp_reg ?_
  refine sq_val (v_move hF rfl) hF (by decide) (fun a hF => ?_)
  refine sq_val (v_move hF rfl) hF (by decide) (fun a hF => ?_)
  obtain ⟨x1, hx2, h⟩ := bindS h
  refine sq_call hF pc199 rfl (by decide) (ok_slices_Equal_Act k (hS.enter ⟨⟨0, rfl⟩, ⟨1, rfl⟩, trivial⟩) hx2) (fun v W hR a hF => ?_)
  obtain ⟨rfl, hT3⟩ := hR
  have hS := hS.grow hT3.below
  refine sq_val (v_assign hF rfl) hF (by decide) (fun a hF => ?_)
  refine sq_nil ?_
  refine then_n ?_
  refine wp_ret ?_
  obtain rfl := Option.some.inj h
  exact ret1 hF rfl (rv_tmp hF rfl) ⟨_, rfl, rfl, (hS.keep (List.Sublist.refl _) (List.Sublist.refl _) trivial)⟩
end Go.Proofs.Ytangebngeeamoaa
