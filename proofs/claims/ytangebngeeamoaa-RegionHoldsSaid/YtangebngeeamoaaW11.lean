/- What calls of the Go functions come to. -/
import Derived.Test.YtangebngeeamoaaW10
set_option linter.unusedVariables false
set_option linter.unusedSimpArgs false
set_option maxRecDepth 100000
set_option maxHeartbeats 4000000
namespace Go.Proofs.Ytangebngeeamoaa
open Go.RowKit Go.Pod
theorem ok_law19_RegionHolds (k : Nat) {M : Nat → Prop} {w0 : World} {u0 : List TRule} {A0_0 : Option Addr} {c0_0 : Nat} {u1 : List TChange} {A1_0 : Option Addr} {c1_0 : Nat} {o : Bool} (hS : St M w0 [] [] [fSl k_TRule A0_0 c0_0 u0, fSl k_TChange A1_0 c1_0 u1] w0) (h : law19_RegionHolds k u0 u1 = some o) :
    Calls Try.prog 6 #[.slice A0_0 ((u0).length) c0_0, .slice A1_0 ((u1).length) c1_0] w0 fun e W' => ∃ v, e = .returned v ∧ (v = .bool (o) ∧ St M w0 [] [] [] W') := by
  unfold law19_RegionHolds at h
  refine calls_start (args := [.slice A0_0 ((u0).length) c0_0, .slice A1_0 ((u1).length) c1_0]) Try.func6 rfl rfl (Nat.le_of_ble_eq_true rfl) (fun a hF => ?_)
  refine wp_seq ?_
  refine wp_reg ?_
  refine sq_val (v_assign hF rfl) hF (by decide) (fun a hF => ?_)
  refine sq_nil ?_
  refine then_n ?_
  refine wp_seq ?_
  refine wp_seq ?_
  refine wp_reg ?_
  refine sq_val (v_move hF rfl) hF (by decide) (fun a hF => ?_)
  refine sq_val (v_len hF rfl pu56) hF (by decide) (fun a hF => ?_)
  refine sq_val (v_gtr hF rfl rfl) hF (by decide) (fun a hF => ?_)
  refine sq_val (v_move hF rfl) hF (by decide) (fun a hF => ?_)
  refine sq_cut 4 (fun a W => FH 109 [(0, .slice A0_0 ((u0).length) c0_0), (1, .slice A1_0 ((u1).length) c1_0), (20, .bool ((decide (10 < (u1.length : Int))) || (decide (20 < (u0.length : Int)))))] a ∧ St M w0 [] [] [fSl k_TRule A0_0 c0_0 u0, fSl k_TChange A1_0 c1_0 u1] W) (fun a W hJ => ?_) ?_
  ·
    obtain ⟨hF, hS⟩ := hJ
    refine sq_nil ?_
    refine then_n ?_
    refine wp_if hF rfl (fun he2 => ?_) (fun he2 => ?_)
    ·
      replace h := ifT he2 h
      refine wp_seq ?_
      refine wp_reg ?_
      obtain ⟨x3, hx4, h⟩ := bindS h
      refine sq_call hF pc33 rfl (by decide) (ok_law19_answers k (hS.enter trivial) hx4) (fun v W hR a hF => ?_)
      obtain ⟨rfl, hT5⟩ := hR
      have hS := hS.grow hT5.below
      refine sq_val (v_assign hF rfl) hF (by decide) (fun a hF => ?_)
      refine sq_nil ?_
      refine then_n ?_
      refine wp_ret ?_
      refine then_r ?_
      obtain rfl := Option.some.inj h
      exact ret1 hF rfl (rv_tmp hF rfl) ⟨_, rfl, rfl, (hS.keep (List.Sublist.refl _) (List.Sublist.refl _) trivial)⟩
    ·
      replace h := ifF he2 h
      refine wp_skip ?_
      refine then_n ?_
      refine wp_seq ?_
      refine wp_reg ?_
      refine sq_val (v_move hF rfl) hF (by decide) (fun a hF => ?_)
      obtain ⟨x6, hx7, h⟩ := bindS h
      refine sq_call hF pc34 rfl (by decide) (ok_region_Of k (hS.enter ⟨⟨1, rfl⟩, trivial⟩) hx7) (fun v W hR a hF => ?_)
      obtain ⟨A8, c9, rfl, hT10⟩ := hR
      have hS := hS.join hT10
      refine sq_val (v_assign hF rfl) hF (by decide) (fun a hF => ?_)
      refine sq_nil ?_
      refine then_n ?_
      refine wp_seq ?_
      refine wp_seq ?_
      refine wp_reg ?_
      refine sq_val (v_assign hF rfl) hF (by decide) (fun a hF => ?_)
      refine sq_nil ?_
      refine then_n ?_
      obtain ⟨o13, h, hk14⟩ := bindS h
      refine wp_join (fun a W => Lo.brk () = o13 ∧ FH 109 [] a ∧ St M w0 [] [] [] W) (fun a W hJ => ?_) ?_
      ·
        obtain ⟨rfl, hF, hS⟩ := hJ
        have h := hk14
        dsimp only at h
        refine then_n ?_
        refine wp_seq ?_
        refine wp_reg ?_
        obtain ⟨x15, hx16, h⟩ := bindS h
        refine sq_call hF pc33 rfl (by decide) (ok_law19_answers k (hS.enter trivial) hx16) (fun v W hR a hF => ?_)
        obtain ⟨rfl, hT17⟩ := hR
        have hS := hS.grow hT17.below
        refine sq_val (v_assign hF rfl) hF (by decide) (fun a hF => ?_)
        refine sq_nil ?_
        refine then_n ?_
        refine wp_ret ?_
        obtain rfl := Option.some.inj h
        exact ret1 hF rfl (rv_tmp hF rfl) ⟨_, rfl, rfl, hS⟩
      ·
        refine wp_block ?_
        refine wp_loop_fuel (I := fun m a W => ∃ (x12 : Int), FH 109 [(0, .slice A0_0 ((u0).length) c0_0), (1, .slice A1_0 ((u1).length) c1_0), (5, .slice A8 ((x6).length) c9), (6, .int .i64 (x12))] a ∧ St M w0 [] [⟨k_TRegion, 63, A8, c9, x6⟩] [fSl k_TRule A0_0 c0_0 u0, fSl k_TChange A1_0 c1_0 u1] W ∧ (law19_RegionHolds.l0 k u0 u1 x6 m x12) = some o13) ?_ (k := k) ⟨0, (hF.keep ⟨rfl, rfl, rfl, rfl, trivial⟩), hS, h⟩
        rintro m18 a W ⟨x12, hF, hS, h⟩
        cases m18 with
        | zero => cases h
        | succ m18 =>
          rw [law19_RegionHolds.l0] at h
          refine wp_seq ?_
          refine wp_seq ?_
          refine wp_reg ?_
          refine sq_val (v_move hF rfl) hF (by decide) (fun a hF => ?_)
          refine sq_val (v_move hF rfl) hF (by decide) (fun a hF => ?_)
          refine sq_val (v_len hF rfl pu56) hF (by decide) (fun a hF => ?_)
          refine sq_val (v_lss hF rfl rfl) hF (by decide) (fun a hF => ?_)
          refine sq_nil ?_
          refine then_n ?_
          refine wp_if hF rfl (fun he19 => ?_) (fun he19 => ?_)
          ·
            replace h := ifT he19 h
            refine wp_skip ?_
            refine then_n ?_
            refine wp_seq ?_
            obtain ⟨o20, h, hk21⟩ := bindS h
            refine wp_join (fun a W => Lo.brk () = o20 ∧ FH 109 [(0, .slice A0_0 ((u0).length) c0_0), (1, .slice A1_0 ((u1).length) c1_0), (5, .slice A8 ((x6).length) c9), (6, .int .i64 (x12))] a ∧ St M w0 [] [⟨k_TRegion, 63, A8, c9, x6⟩] [fSl k_TRule A0_0 c0_0 u0, fSl k_TChange A1_0 c1_0 u1] W) (fun a W hJ => ?_) ?_
            ·
              obtain ⟨rfl, hF, hS⟩ := hJ
              have h := hk21
              dsimp only at h
              refine then_n ?_
              refine wp_reg ?_
              refine sq_val (v_move hF rfl) hF (by decide) (fun a hF => ?_)
              refine sq_val (v_add hF rfl rfl) hF (by decide) (fun a hF => ?_)
              refine sq_val (v_assign hF rfl) hF (by decide) (fun a hF => ?_)
              refine sq_nil ?_
              exact then_j ⟨m18, Nat.lt_succ_self _, (IntKind.i64.wrap (x12 + 1)), (hF.keep ⟨rfl, rfl, rfl, rfl, trivial⟩), hS, h⟩
            ·
              refine wp_block ?_
              refine wp_seq ?_
              refine wp_seq ?_
              refine wp_reg ?_
              refine sq_val (v_move hF rfl) hF (by decide) (fun a hF => ?_)
              refine sq_val (v_move hF rfl) hF (by decide) (fun a hF => ?_)
              obtain ⟨x22, hx23, h⟩ := bindS h
              obtain ⟨p24, cs25, hA26, hat27⟩ := SlR.at (hS.fc (i := 1) rfl) hx23
              obtain ⟨A28, c29, rfl, hs30⟩ := hat27.2.2.2
              have hS := hS.addFact (f := fAt k_TChange (p24.add (x12.toNat * 32)) (TChange.enc x22 A28 c29) x22) hat27
              have hS := hS.addFact (f := fSl k_TAct A28 c29 x22.Mod.Acts) hs30
              refine sq_val (v_idx hF rfl hA26 rfl psl56 hx23) hF (by decide) (fun a hF => ?_)
              refine sq_val (v_fieldAddr hF rfl pf60_1) hF (by decide) (fun a hF => ?_)
              refine sq_val (v_fieldAddr hF rfl pf40_3) hF (by decide) (fun a hF => ?_)
              refine sq_val (v_load1 hF rfl pa38 (cells_sub (vs := [.slice A28 ((x22.Mod.Acts).length) c29]) (hS.pc (i := 1) rfl) (add_add _ _ _) rfl)) hF (by decide) (fun a hF => ?_)
              refine sq_val (v_len hF rfl pu38) hF (by decide) (fun a hF => ?_)
              refine sq_val (v_gtr hF rfl rfl) hF (by decide) (fun a hF => ?_)
              refine sq_val (v_move hF rfl) hF (by decide) (fun a hF => ?_)
              obtain ⟨x32, h, hk34⟩ := bindS h
              refine sq_cut 8 (fun a W => FH 109 [(0, .slice A0_0 ((u0).length) c0_0), (1, .slice A1_0 ((u1).length) c1_0), (5, .slice A8 ((x6).length) c9), (6, .int .i64 (x12)), (46, .bool x32)] a ∧ St M w0 [] [⟨k_TRegion, 63, A8, c9, x6⟩] [fSl k_TAct A28 c29 x22.Mod.Acts, fAt k_TChange (p24.add (x12.toNat * 32)) (TChange.enc x22 A28 c29) x22, fSl k_TRule A0_0 c0_0 u0, fSl k_TChange A1_0 c1_0 u1] W) (fun a W hJ => ?_) ?_
              ·
                have h := hk34
                obtain ⟨hF, hS⟩ := hJ
                refine sq_nil ?_
                refine then_n ?_
                refine wp_if hF rfl (fun he45 => ?_) (fun he45 => ?_)
                ·
                  replace h := ifT he45 h
                  refine wp_seq ?_
                  refine wp_reg ?_
                  obtain ⟨x46, hx47, h⟩ := bindS h
                  refine sq_call hF pc33 rfl (by decide) (ok_law19_answers k (hS.enter trivial) hx47) (fun v W hR a hF => ?_)
                  obtain ⟨rfl, hT48⟩ := hR
                  have hS := hS.grow hT48.below
                  refine sq_val (v_assign hF rfl) hF (by decide) (fun a hF => ?_)
                  refine sq_nil ?_
                  refine then_n ?_
                  refine wp_ret ?_
                  refine then_r ?_
                  refine blk_r ?_
                  refine then_r ?_
                  refine then_r ?_
                  refine then_r ?_
                  refine blk_r ?_
                  refine then_r ?_
                  refine then_r ?_
                  obtain rfl := Option.some.inj h
                  have h := hk21
                  dsimp only at h
                  obtain rfl := Option.some.inj h
                  have h := hk14
                  dsimp only at h
                  obtain rfl := Option.some.inj h
                  exact ret1 hF rfl (rv_tmp hF rfl) ⟨_, rfl, rfl, (hS.keep (List.Sublist.refl _) (List.nil_sublist _) trivial)⟩
                ·
                  replace h := ifF he45 h
                  refine wp_skip ?_
                  refine then_n ?_
                  refine wp_seq ?_
                  refine wp_reg ?_
                  refine sq_val (v_move hF rfl) hF (by decide) (fun a hF => ?_)
                  refine sq_val (v_move hF rfl) hF (by decide) (fun a hF => ?_)
                  refine sq_val (v_move hF rfl) hF (by decide) (fun a hF => ?_)
                  obtain ⟨p49, cs50, hA51, hat52⟩ := SlR.at (hS.fc (i := 3) rfl) hx23
                  obtain ⟨A53, c54, rfl, hs55⟩ := hat52.2.2.2
                  have hS := hS.addFact (f := fAt k_TChange (p49.add (x12.toNat * 32)) (TChange.enc x22 A53 c54) x22) hat52
                  have hS := hS.addFact (f := fSl k_TAct A53 c54 x22.Mod.Acts) hs55
                  refine sq_val (v_idx hF rfl hA51 rfl psl56 hx23) hF (by decide) (fun a hF => ?_)
                  refine sq_val (v_fieldAddr hF rfl pf60_1) hF (by decide) (fun a hF => ?_)
                  refine sq_val (v_load (cs := TMod.enc x22.Mod A53 c54) hF rfl pa40 ps40 (cells_sub (vs := TMod.enc x22.Mod A53 c54) (hS.pc (i := 1) rfl) rfl rfl)) hF (by decide) (fun a hF => ?_)
                  obtain ⟨x56, hx57, h⟩ := bindS h
                  refine sq_call hF pc25 rfl (by decide) (ok_ref04_Apply k (hS.enter ⟨⟨4, rfl⟩, ⟨0, rfl⟩, trivial⟩) hx57) (fun v W hR a hF => ?_)
                  obtain ⟨A58, c59, rfl, hT60⟩ := hR
                  have hS := hS.join hT60
                  refine sq_val (v_move hF rfl) hF (by decide) (fun a hF => ?_)
                  refine sq_val (v_extract hF rfl rfl) hF (by decide) (fun a hF => ?_)
                  refine sq_val (v_extract hF rfl rfl) hF (by decide) (fun a hF => ?_)
                  refine sq_val (v_assign hF rfl) hF (by decide) (fun a hF => ?_)
                  refine sq_val (v_assign hF rfl) hF (by decide) (fun a hF => ?_)
                  refine sq_nil ?_
                  refine then_n ?_
                  refine wp_seq ?_
                  refine wp_seq ?_
                  refine wp_reg ?_
                  refine sq_val (v_move hF rfl) hF (by decide) (fun a hF => ?_)
                  refine sq_val (v_neq hF rfl rfl) hF (by decide) (fun a hF => ?_)
                  refine sq_nil ?_
                  refine then_n ?_
                  refine wp_if hF rfl (fun he61 => ?_) (fun he61 => ?_)
                  ·
                    replace h := ifT he61 h
                    refine wp_exit ?_
                    refine then_x ?_
                    refine blk_hit ?_
                    obtain rfl := Option.some.inj h
                    exact then_j ⟨rfl, (hF.keep ⟨rfl, rfl, rfl, rfl, trivial⟩), (hS.keep (List.Sublist.refl _) (.cons _ (List.Sublist.refl _)) ⟨⟨4, rfl⟩, ⟨5, rfl⟩, trivial⟩)⟩
                  ·
                    replace h := ifF he61 h
                    refine wp_skip ?_
                    refine then_n ?_
                    refine wp_seq ?_
                    refine wp_reg ?_
                    refine sq_val (v_move hF rfl) hF (by decide) (fun a hF => ?_)
                    refine sq_val (v_move hF rfl) hF (by decide) (fun a hF => ?_)
                    have hS := hS.freeze (i := 0) rfl (posB rfl)
                    obtain ⟨x62, hx63, h⟩ := bindS h
                    refine sq_call hF pc35 rfl (by decide) (ok_ref04_Alone k (hS.enter ⟨⟨5, rfl⟩, ⟨0, rfl⟩, trivial⟩) hx63) (fun v W hR a hF => ?_)
                    obtain ⟨A64, c65, rfl, hT66⟩ := hR
                    have hS := hS.join hT66
                    refine sq_val (v_move hF rfl) hF (by decide) (fun a hF => ?_)
                    refine sq_val (v_move hF rfl) hF (by decide) (fun a hF => ?_)
                    obtain ⟨x67, hx68, h⟩ := bindS h
                    refine sq_call hF pc35 rfl (by decide) (ok_ref04_Alone k (hS.enter ⟨⟨0, rfl⟩, ⟨5, rfl⟩, trivial⟩) hx68) (fun v W hR a hF => ?_)
                    obtain ⟨A69, c70, rfl, hT71⟩ := hR
                    have hS := hS.join hT71
                    obtain ⟨x74, hx75, h⟩ := bindS h
                    refine sq_append (ys := x67) hF hS (i := 1) rfl rfl rfl (hS.rw_ (i := 0) rfl).src psl37 pb65 pz65 rfl (by decide) (by decide) hx75 (by decide) (fun A72 c73 a W hF hS => ?_)
                    refine sq_val (v_assign hF rfl) hF (by decide) (fun a hF => ?_)
                    refine sq_nil ?_
                    refine then_n ?_
                    refine wp_seq ?_
                    refine wp_reg ?_
                    refine sq_val (v_assign hF rfl) hF (by decide) (fun a hF => ?_)
                    refine sq_nil ?_
                    refine then_n ?_
                    obtain ⟨o78, h, hk79⟩ := bindS h
                    refine wp_join (fun a W => Lo.brk () = o78 ∧ FH 109 [(0, .slice A0_0 ((u0).length) c0_0), (1, .slice A1_0 ((u1).length) c1_0), (5, .slice A8 ((x6).length) c9), (6, .int .i64 (x12))] a ∧ St M w0 [] [⟨k_TRegion, 63, A8, c9, x6⟩] [fSl k_TRule A0_0 c0_0 u0, fSl k_TChange A1_0 c1_0 u1] W) (fun a W hJ => ?_) ?_
                    ·
                      obtain ⟨rfl, hF, hS⟩ := hJ
                      have h := hk79
                      dsimp only at h
                      refine blk_n ?_
                      obtain rfl := Option.some.inj h
                      exact then_j ⟨rfl, (hF.keep ⟨rfl, rfl, rfl, rfl, trivial⟩), hS⟩
                    ·
                      refine wp_block ?_
                      refine wp_loop_fuel (I := fun m a W => ∃ (x77 : Int), FH 109 [(0, .slice A0_0 ((u0).length) c0_0), (1, .slice A1_0 ((u1).length) c1_0), (5, .slice A8 ((x6).length) c9), (6, .int .i64 (x12)), (9, .slice A72 ((x74).length) c73), (10, .int .i64 (x77))] a ∧ St M w0 [] [⟨k_TRule, 65, A72, c73, x74⟩, ⟨k_TRegion, 63, A8, c9, x6⟩] [fSl k_TRule A0_0 c0_0 u0, fSl k_TChange A1_0 c1_0 u1] W ∧ (law19_RegionHolds.l1 k x6 x22 x74 m x77) = some o78) ?_ (k := k) ⟨0, (hF.keep ⟨rfl, rfl, rfl, rfl, rfl, rfl, trivial⟩), (hS.keep (List.Sublist.refl _) (.cons _ (List.Sublist.refl _)) ⟨⟨5, rfl⟩, ⟨6, rfl⟩, trivial⟩), h⟩
                      rintro m80 a W ⟨x77, hF, hS, h⟩
                      cases m80 with
                      | zero => cases h
                      | succ m80 =>
                        rw [law19_RegionHolds.l1] at h
                        refine wp_seq ?_
                        refine wp_seq ?_
                        refine wp_reg ?_
                        refine sq_val (v_move hF rfl) hF (by decide) (fun a hF => ?_)
                        refine sq_val (v_move hF rfl) hF (by decide) (fun a hF => ?_)
                        refine sq_val (v_len hF rfl pu37) hF (by decide) (fun a hF => ?_)
                        refine sq_val (v_lss hF rfl rfl) hF (by decide) (fun a hF => ?_)
                        refine sq_nil ?_
                        refine then_n ?_
                        refine wp_if hF rfl (fun he81 => ?_) (fun he81 => ?_)
                        ·
                          replace h := ifT he81 h
                          refine wp_skip ?_
                          refine then_n ?_
                          refine wp_seq ?_
                          refine wp_block ?_
                          refine wp_seq ?_
                          refine wp_reg ?_
                          refine sq_val (v_assign hF rfl) hF (by decide) (fun a hF => ?_)
                          refine sq_nil ?_
                          refine then_n ?_
                          refine wp_seq ?_
                          refine wp_seq ?_
                          refine wp_reg ?_
                          refine sq_val (v_assign hF rfl) hF (by decide) (fun a hF => ?_)
                          refine sq_nil ?_
                          refine then_n ?_
                          obtain ⟨o87, h, hk88⟩ := bindS h
                          refine wp_join (fun a W => ∃ (x86 : Bool), x86 = o87 ∧ FH 109 [(0, .slice A0_0 ((u0).length) c0_0), (1, .slice A1_0 ((u1).length) c1_0), (5, .slice A8 ((x6).length) c9), (6, .int .i64 (x12)), (9, .slice A72 ((x74).length) c73), (10, .int .i64 (x77)), (11, .bool (x86))] a ∧ St M w0 [] [⟨k_TRule, 65, A72, c73, x74⟩, ⟨k_TRegion, 63, A8, c9, x6⟩] [fSl k_TRule A0_0 c0_0 u0, fSl k_TChange A1_0 c1_0 u1] W) (fun a W hJ => ?_) ?_
                          ·
                            obtain ⟨x86, rfl, hF, hS⟩ := hJ
                            have h := hk88
                            refine then_n ?_
                            refine wp_seq ?_
                            refine wp_reg ?_
                            refine sq_val (v_move hF rfl) hF (by decide) (fun a hF => ?_)
                            refine sq_val (v_not hF rfl) hF (by decide) (fun a hF => ?_)
                            refine sq_nil ?_
                            refine then_n ?_
                            refine wp_if hF rfl (fun he89 => ?_) (fun he89 => ?_)
                            ·
                              replace h := ifT he89 h
                              refine wp_seq ?_
                              refine wp_reg ?_
                              refine sq_val (v_assign hF rfl) hF (by decide) (fun a hF => ?_)
                              refine sq_nil ?_
                              refine then_n ?_
                              refine wp_ret ?_
                              refine blk_r ?_
                              refine then_r ?_
                              refine then_r ?_
                              refine blk_r ?_
                              refine then_r ?_
                              refine blk_r ?_
                              refine then_r ?_
                              refine then_r ?_
                              refine then_r ?_
                              refine blk_r ?_
                              refine then_r ?_
                              refine then_r ?_
                              obtain rfl := Option.some.inj h
                              have h := hk79
                              dsimp only at h
                              obtain rfl := Option.some.inj h
                              have h := hk21
                              dsimp only at h
                              obtain rfl := Option.some.inj h
                              have h := hk14
                              dsimp only at h
                              obtain rfl := Option.some.inj h
                              exact ret1 hF rfl (rv_tmp hF rfl) ⟨_, rfl, rfl, (hS.keep (List.Sublist.refl _) (List.nil_sublist _) trivial)⟩
                            ·
                              replace h := ifF he89 h
                              refine wp_skip ?_
                              refine blk_n ?_
                              refine then_n ?_
                              refine wp_reg ?_
                              refine sq_val (v_move hF rfl) hF (by decide) (fun a hF => ?_)
                              refine sq_val (v_add hF rfl rfl) hF (by decide) (fun a hF => ?_)
                              refine sq_val (v_assign hF rfl) hF (by decide) (fun a hF => ?_)
                              refine sq_nil ?_
                              exact then_j ⟨m80, Nat.lt_succ_self _, (IntKind.i64.wrap (x77 + 1)), (hF.keep ⟨rfl, rfl, rfl, rfl, rfl, rfl, trivial⟩), hS, h⟩
                          ·
                            refine wp_block ?_
                            refine wp_loop_fuel (I := fun m a W => ∃ (x84 : Bool) (x85 : Int), FH 109 [(0, .slice A0_0 ((u0).length) c0_0), (1, .slice A1_0 ((u1).length) c1_0), (5, .slice A8 ((x6).length) c9), (6, .int .i64 (x12)), (9, .slice A72 ((x74).length) c73), (10, .int .i64 (x77)), (11, .bool (x84)), (12, .int .i64 (x85))] a ∧ St M w0 [] [⟨k_TRule, 65, A72, c73, x74⟩, ⟨k_TRegion, 63, A8, c9, x6⟩] [fSl k_TRule A0_0 c0_0 u0, fSl k_TChange A1_0 c1_0 u1] W ∧ (law19_RegionHolds.l2 k x6 x22 x74 x77 m x84 x85) = some o87) ?_ (k := k) ⟨false, 0, (hF.keep ⟨rfl, rfl, rfl, rfl, rfl, rfl, rfl, rfl, trivial⟩), hS, h⟩
                            rintro m90 a W ⟨x84, x85, hF, hS, h⟩
                            cases m90 with
                            | zero => cases h
                            | succ m90 =>
                              rw [law19_RegionHolds.l2] at h
                              refine wp_seq ?_
                              refine wp_seq ?_
                              refine wp_reg ?_
                              refine sq_val (v_move hF rfl) hF (by decide) (fun a hF => ?_)
                              refine sq_val (v_move hF rfl) hF (by decide) (fun a hF => ?_)
                              refine sq_val (v_len hF rfl pu57) hF (by decide) (fun a hF => ?_)
                              refine sq_val (v_lss hF rfl rfl) hF (by decide) (fun a hF => ?_)
                              refine sq_nil ?_
                              refine then_n ?_
                              refine wp_if hF rfl (fun he91 => ?_) (fun he91 => ?_)
                              ·
                                replace h := ifT he91 h
                                refine wp_skip ?_
                                refine then_n ?_
                                refine wp_seq ?_
                                refine wp_block ?_
                                refine wp_quiet rfl (by kernel_rfl) hS ?_
                                refine qt_val (fun W hC => (v_move hF rfl)) hF (by decide) (fun a hF => ?_)
                                refine qt_val (fun W hC => (v_move hF rfl)) hF (by decide) (fun a hF => ?_)
                                obtain ⟨x93, h, hk95⟩ := bindS h
                                refine qt_cut 25 (fun a => FH 109 [(0, .slice A0_0 ((u0).length) c0_0), (1, .slice A1_0 ((u1).length) c1_0), (5, .slice A8 ((x6).length) c9), (6, .int .i64 (x12)), (9, .slice A72 ((x74).length) c73), (10, .int .i64 (x77)), (12, .int .i64 (x85)), (105, .bool x93)] a) (fun a hF => ?_) ?_
                                ·
                                  have h := hk95
                                  refine qt_val (fun W hC => (v_assign hF rfl)) hF (by decide) (fun a hF => ?_)
                                  refine qt_nil ?_
                                  intro W hC
                                  have hS := hC.2
                                  refine blk_n ?_
                                  refine then_n ?_
                                  refine wp_reg ?_
                                  refine sq_val (v_move hF rfl) hF (by decide) (fun a hF => ?_)
                                  refine sq_val (v_add hF rfl rfl) hF (by decide) (fun a hF => ?_)
                                  refine sq_val (v_assign hF rfl) hF (by decide) (fun a hF => ?_)
                                  refine sq_nil ?_
                                  exact then_j ⟨m90, Nat.lt_succ_self _, x93, (IntKind.i64.wrap (x85 + 1)), (hF.keep ⟨rfl, rfl, rfl, rfl, rfl, rfl, rfl, rfl, trivial⟩), hS, h⟩
                                ·
                                  by_cases he92 : x84 = true
                                  ·
                                    replace h := ifT he92 h
                                    refine qt_no hF rfl rfl he92 (by decide) (fun a hF => ?_)
                                    refine qt_no hF rfl rfl he92 (by decide) (fun a hF => ?_)
                                    refine qt_no hF rfl rfl he92 (by decide) (fun a hF => ?_)
                                    refine qt_no hF rfl rfl he92 (by decide) (fun a hF => ?_)
                                    refine qt_no hF rfl rfl he92 (by decide) (fun a hF => ?_)
                                    refine qt_no hF rfl rfl he92 (by decide) (fun a hF => ?_)
                                    refine qt_no hF rfl rfl he92 (by decide) (fun a hF => ?_)
                                    refine qt_no hF rfl rfl he92 (by decide) (fun a hF => ?_)
                                    refine qt_no hF rfl rfl he92 (by decide) (fun a hF => ?_)
                                    refine qt_no hF rfl rfl he92 (by decide) (fun a hF => ?_)
                                    refine qt_no hF rfl rfl he92 (by decide) (fun a hF => ?_)
                                    refine qt_no hF rfl rfl he92 (by decide) (fun a hF => ?_)
                                    refine qt_no2 hF rfl rfl (by decide) (fun a hF => ?_)
                                    refine qt_no2 hF rfl rfl (by decide) (fun a hF => ?_)
                                    refine qt_no2 hF rfl rfl (by decide) (fun a hF => ?_)
                                    refine qt_no2 hF rfl rfl (by decide) (fun a hF => ?_)
                                    refine qt_no2 hF rfl rfl (by decide) (fun a hF => ?_)
                                    refine qt_no2 hF rfl rfl (by decide) (fun a hF => ?_)
                                    refine qt_no2 hF rfl rfl (by decide) (fun a hF => ?_)
                                    refine qt_no2 hF rfl rfl (by decide) (fun a hF => ?_)
                                    refine qt_no2 hF rfl rfl (by decide) (fun a hF => ?_)
                                    refine qt_no2 hF rfl rfl (by decide) (fun a hF => ?_)
                                    refine qt_no2 hF rfl rfl (by decide) (fun a hF => ?_)
                                    refine qt_no hF rfl rfl he92 (by decide) (fun a hF => ?_)
                                    refine qt_val (fun W hC => (v_pick_t hF rfl he92 rfl)) hF (by decide) (fun a hF => ?_)
                                    obtain rfl := Option.some.inj h
                                    exact qt_nil (hF.keep ⟨rfl, rfl, rfl, rfl, rfl, rfl, rfl, rfl, trivial⟩)
                                  ·
                                    have he92 : x84 = false := nB he92
                                    replace h := ifF he92 h
                                    refine qt_yes hF rfl rfl he92 ?_
                                    refine qt_val (fun W hC => (v_move hF rfl)) hF (by decide) (fun a hF => ?_)
                                    refine qt_yes hF rfl rfl he92 ?_
                                    refine qt_val (fun W hC => (v_move hF rfl)) hF (by decide) (fun a hF => ?_)
                                    refine qt_yes hF rfl rfl he92 ?_
                                    obtain ⟨x96, hx97, h⟩ := bindS h
                                    obtain ⟨p98, cs99, hA100, hc102, hr103⟩ := Row.ok.at (hS.rw_ (i := 1) rfl) hx97
                                    obtain rfl : cs99 = TRegion.enc x96 := hr103
                                    refine qt_val (fun W hC => (v_idx hF rfl hA100 rfl psl57 hx97)) hF (by decide) (fun a hF => ?_)
                                    refine qt_yes hF rfl rfl he92 ?_
                                    refine qt_val (fun W hC => (v_fieldAddr hF rfl pf63_0)) hF (by decide) (fun a hF => ?_)
                                    refine qt_yes hF rfl rfl he92 ?_
                                    refine qt_val (fun W hC => (v_load1 hF rfl pa3 (cells_sub (vs := [.int .i64 (x96.Unit)]) (hc102.grow hC.1) rfl rfl))) hF (by decide) (fun a hF => ?_)
                                    refine qt_yes hF rfl rfl he92 ?_
                                    refine qt_val (fun W hC => (v_move hF rfl)) hF (by decide) (fun a hF => ?_)
                                    refine qt_yes hF rfl rfl he92 ?_
                                    refine qt_val (fun W hC => (v_move hF rfl)) hF (by decide) (fun a hF => ?_)
                                    refine qt_yes hF rfl rfl he92 ?_
                                    obtain ⟨p104, cs105, hA106, hat107⟩ := SlR.at (hS.fc (i := 1) rfl) hx23
                                    obtain ⟨A108, c109, rfl, hs110⟩ := hat107.2.2.2
                                    refine qt_val (fun W hC => (v_idx hF rfl hA106 rfl psl56 hx23)) hF (by decide) (fun a hF => ?_)
                                    refine qt_yes hF rfl rfl he92 ?_
                                    refine qt_val (fun W hC => (v_fieldAddr hF rfl pf60_0)) hF (by decide) (fun a hF => ?_)
                                    refine qt_yes hF rfl rfl he92 ?_
                                    refine qt_val (fun W hC => (v_load1 hF rfl pa3 (cells_sub (vs := [.int .i64 (x22.Unit)]) (hat107.2.2.1.grow hC.1) rfl rfl))) hF (by decide) (fun a hF => ?_)
                                    refine qt_yes hF rfl rfl he92 ?_
                                    refine qt_val (fun W hC => (v_eql hF rfl rfl)) hF (by decide) (fun a hF => ?_)
                                    refine qt_yes hF rfl rfl he92 ?_
                                    refine qt_val (fun W hC => (v_move hF rfl)) hF (by decide) (fun a hF => ?_)
                                    obtain ⟨x112, h, hk114⟩ := bindS h
                                    refine qt_cut 12 (fun a => FH 109 [(0, .slice A0_0 ((u0).length) c0_0), (1, .slice A1_0 ((u1).length) c1_0), (5, .slice A8 ((x6).length) c9), (6, .int .i64 (x12)), (9, .slice A72 ((x74).length) c73), (10, .int .i64 (x77)), (12, .int .i64 (x85)), (80, .bool (x84)), (81, .slice A8 ((x6).length) c9), (82, .int .i64 (x85)), (83, .pointer (some (p98.add (x85.toNat * 25)))), (84, .pointer (some ((p98.add (x85.toNat * 25)).add (0)))), (85, .int .i64 (x96.Unit)), (86, .slice A1_0 ((u1).length) c1_0), (87, .int .i64 (x12)), (88, .pointer (some (p104.add (x12.toNat * 32)))), (89, .pointer (some ((p104.add (x12.toNat * 32)).add (0)))), (90, .int .i64 (x22.Unit)), (91, .bool ((x96.Unit == x22.Unit))), (92, .bool ((x96.Unit == x22.Unit))), (104, .bool x112)] a) (fun a hF => ?_) ?_
                                    ·
                                      have h := hk114
                                      refine qt_val (fun W hC => (v_pick_f hF rfl he92 rfl)) hF (by decide) (fun a hF => ?_)
                                      obtain rfl := Option.some.inj h
                                      exact qt_nil (hF.keep ⟨rfl, rfl, rfl, rfl, rfl, rfl, rfl, rfl, trivial⟩)
                                    ·
                                      by_cases he111 : (x96.Unit == x22.Unit) = true
                                      ·
                                        replace h := ifT he111 h
                                        refine qt_yes hF rfl rfl he111 ?_
                                        refine qt_val (fun W hC => (v_move hF rfl)) hF (by decide) (fun a hF => ?_)
                                        refine qt_yes hF rfl rfl he111 ?_
                                        refine qt_val (fun W hC => (v_move hF rfl)) hF (by decide) (fun a hF => ?_)
                                        refine qt_yes hF rfl rfl he111 ?_
                                        obtain ⟨x115, hx116, h⟩ := bindS h
                                        obtain ⟨p117, cs118, hA119, hc121, hr122⟩ := Row.ok.at (hS.rw_ (i := 0) rfl) hx116
                                        obtain ⟨A123, c124, rfl, hs125⟩ := hr122
                                        refine qt_val (fun W hC => (v_idx hF rfl hA119 rfl psl37 hx116)) hF (by decide) (fun a hF => ?_)
                                        refine qt_yes hF rfl rfl he111 ?_
                                        refine qt_val (fun W hC => (v_fieldAddr hF rfl pf65_0)) hF (by decide) (fun a hF => ?_)
                                        refine qt_yes hF rfl rfl he111 ?_
                                        refine qt_val (fun W hC => (v_load (cs := TCube.enc x115.Match) hF rfl pa26 ps26 (cells_sub (vs := TCube.enc x115.Match) (hc121.grow hC.1) rfl rfl))) hF (by decide) (fun a hF => ?_)
                                        refine qt_yes hF rfl rfl he111 ?_
                                        refine qt_val (fun W hC => (v_move hF rfl)) hF (by decide) (fun a hF => ?_)
                                        refine qt_yes hF rfl rfl he111 ?_
                                        refine qt_val (fun W hC => (v_move hF rfl)) hF (by decide) (fun a hF => ?_)
                                        refine qt_yes hF rfl rfl he111 ?_
                                        obtain ⟨p126, cs127, hA128, hc130, hr131⟩ := Row.ok.at (hS.rw_ (i := 1) rfl) hx97
                                        obtain rfl : cs127 = TRegion.enc x96 := hr131
                                        refine qt_val (fun W hC => (v_idx hF rfl hA128 rfl psl57 hx97)) hF (by decide) (fun a hF => ?_)
                                        refine qt_yes hF rfl rfl he111 ?_
                                        refine qt_val (fun W hC => (v_fieldAddr hF rfl pf63_1)) hF (by decide) (fun a hF => ?_)
                                        refine qt_yes hF rfl rfl he111 ?_
                                        refine qt_val (fun W hC => (v_load (cs := TCube.enc x96.Cube) hF rfl pa26 ps26 (cells_sub (vs := TCube.enc x96.Cube) (hc130.grow hC.1) rfl rfl))) hF (by decide) (fun a hF => ?_)
                                        refine qt_yes hF rfl rfl he111 ?_
                                        obtain ⟨x132, hx133, h⟩ := bindS h
                                        refine qt_call hF pc20 rfl (by decide) (fun W hC => q_of hC (ok_ref01_Within k (hC.2.enter trivial) hx133)) (fun a hF => ?_)
                                        refine qt_yes hF rfl rfl he92 ?_
                                        refine qt_val (fun W hC => (v_pick_t hF rfl he111 rfl)) hF (by decide) (fun a hF => ?_)
                                        obtain rfl := Option.some.inj h
                                        exact qt_nil (hF.keep ⟨rfl, rfl, rfl, rfl, rfl, rfl, rfl, rfl, rfl, rfl, rfl, rfl, rfl, rfl, rfl, rfl, rfl, rfl, rfl, rfl, rfl, trivial⟩)
                                      ·
                                        have he111 : (x96.Unit == x22.Unit) = false := nB he111
                                        replace h := ifF he111 h
                                        refine qt_no hF rfl rfl he111 (by decide) (fun a hF => ?_)
                                        refine qt_no hF rfl rfl he111 (by decide) (fun a hF => ?_)
                                        refine qt_no hF rfl rfl he111 (by decide) (fun a hF => ?_)
                                        refine qt_no hF rfl rfl he111 (by decide) (fun a hF => ?_)
                                        refine qt_no hF rfl rfl he111 (by decide) (fun a hF => ?_)
                                        refine qt_no hF rfl rfl he111 (by decide) (fun a hF => ?_)
                                        refine qt_no hF rfl rfl he111 (by decide) (fun a hF => ?_)
                                        refine qt_no hF rfl rfl he111 (by decide) (fun a hF => ?_)
                                        refine qt_no hF rfl rfl he111 (by decide) (fun a hF => ?_)
                                        refine qt_no hF rfl rfl he111 (by decide) (fun a hF => ?_)
                                        refine qt_no hF rfl rfl he111 (by decide) (fun a hF => ?_)
                                        refine qt_yes hF rfl rfl he92 ?_
                                        refine qt_val (fun W hC => (v_pick_f hF rfl he111 rfl)) hF (by decide) (fun a hF => ?_)
                                        obtain rfl := Option.some.inj h
                                        exact qt_nil (hF.keep ⟨rfl, rfl, rfl, rfl, rfl, rfl, rfl, rfl, rfl, rfl, rfl, rfl, rfl, rfl, rfl, rfl, rfl, rfl, rfl, rfl, rfl, trivial⟩)
                              ·
                                replace h := ifF he91 h
                                refine wp_exit ?_
                                refine then_x ?_
                                refine then_x ?_
                                refine blk_hit ?_
                                obtain rfl := Option.some.inj h
                                exact then_j ⟨x84, rfl, (hF.keep ⟨rfl, rfl, rfl, rfl, rfl, rfl, rfl, trivial⟩), hS⟩
                        ·
                          replace h := ifF he81 h
                          refine wp_exit ?_
                          refine then_x ?_
                          refine then_x ?_
                          refine blk_hit ?_
                          obtain rfl := Option.some.inj h
                          exact then_j ⟨rfl, (hF.keep ⟨rfl, rfl, rfl, rfl, trivial⟩), (hS.keep (List.Sublist.refl _) (.cons _ (List.Sublist.refl _)) ⟨⟨0, rfl⟩, ⟨1, rfl⟩, trivial⟩)⟩
              ·
                by_cases he31 : (decide (10 < (x22.Mod.Acts.length : Int))) = true
                ·
                  replace h := ifT he31 h
                  refine sq_no hF rfl rfl he31 (by rintro x ⟨⟩; decide) (fun a hF => ?_)
                  refine sq_no hF rfl rfl he31 (by rintro x ⟨⟩; decide) (fun a hF => ?_)
                  refine sq_no hF rfl rfl he31 (by rintro x ⟨⟩; decide) (fun a hF => ?_)
                  refine sq_no hF rfl rfl he31 (by rintro x ⟨⟩; decide) (fun a hF => ?_)
                  refine sq_no hF rfl rfl he31 (by rintro x ⟨⟩; decide) (fun a hF => ?_)
                  refine sq_no hF rfl rfl he31 (by rintro x ⟨⟩; decide) (fun a hF => ?_)
                  refine sq_no hF rfl rfl he31 (by rintro x ⟨⟩; decide) (fun a hF => ?_)
                  refine sq_val (v_pick_t hF rfl he31 rfl) hF (by decide) (fun a hF => ?_)
                  obtain rfl := Option.some.inj h
                  exact sq_nil (then_j ⟨(hF.keep ⟨rfl, rfl, rfl, rfl, rfl, trivial⟩), hS⟩)
                ·
                  have he31 : (decide (10 < (x22.Mod.Acts.length : Int))) = false := nB he31
                  replace h := ifF he31 h
                  refine sq_yes hF rfl rfl he31 ?_
                  refine sq_val (v_move hF rfl) hF (by decide) (fun a hF => ?_)
                  refine sq_yes hF rfl rfl he31 ?_
                  refine sq_val (v_move hF rfl) hF (by decide) (fun a hF => ?_)
                  refine sq_yes hF rfl rfl he31 ?_
                  obtain ⟨p35, cs36, hA37, hat38⟩ := SlR.at (hS.fc (i := 3) rfl) hx23
                  obtain ⟨A39, c40, rfl, hs41⟩ := hat38.2.2.2
                  have hS := hS.addFact (f := fAt k_TChange (p35.add (x12.toNat * 32)) (TChange.enc x22 A39 c40) x22) hat38
                  have hS := hS.addFact (f := fSl k_TAct A39 c40 x22.Mod.Acts) hs41
                  refine sq_val (v_idx hF rfl hA37 rfl psl56 hx23) hF (by decide) (fun a hF => ?_)
                  refine sq_yes hF rfl rfl he31 ?_
                  refine sq_val (v_fieldAddr hF rfl pf60_1) hF (by decide) (fun a hF => ?_)
                  refine sq_yes hF rfl rfl he31 ?_
                  refine sq_val (v_load (cs := TMod.enc x22.Mod A39 c40) hF rfl pa40 ps40 (cells_sub (vs := TMod.enc x22.Mod A39 c40) (hS.pc (i := 1) rfl) rfl rfl)) hF (by decide) (fun a hF => ?_)
                  refine sq_yes hF rfl rfl he31 ?_
                  obtain ⟨x42, hx43, h⟩ := bindS h
                  refine sq_call hF pc28 rfl (by decide) (ok_ref04_Mod k (hS.enter ⟨⟨0, rfl⟩, trivial⟩) hx43) (fun v W hR a hF => ?_)
                  obtain ⟨rfl, hT44⟩ := hR
                  have hS := hS.grow hT44.below
                  refine sq_yes hF rfl rfl he31 ?_
                  refine sq_val (v_not hF rfl) hF (by decide) (fun a hF => ?_)
                  refine sq_val (v_pick_f hF rfl he31 rfl) hF (by decide) (fun a hF => ?_)
                  obtain rfl := Option.some.inj h
                  exact sq_nil (then_j ⟨(hF.keep ⟨rfl, rfl, rfl, rfl, rfl, trivial⟩), (hS.keep (List.Sublist.refl _) (List.Sublist.refl _) ⟨⟨2, rfl⟩, ⟨3, rfl⟩, ⟨4, rfl⟩, ⟨5, rfl⟩, trivial⟩)⟩)
          ·
            replace h := ifF he19 h
            refine wp_exit ?_
            refine then_x ?_
            refine then_x ?_
            refine blk_hit ?_
            obtain rfl := Option.some.inj h
            exact then_j ⟨rfl, (hF.keep trivial), (hS.keep (List.Sublist.refl _) (List.nil_sublist _) trivial)⟩
  ·
    by_cases he1 : (decide (10 < (u1.length : Int))) = true
    ·
      refine sq_no hF rfl rfl he1 (by rintro x ⟨⟩; decide) (fun a hF => ?_)
      refine sq_no hF rfl rfl he1 (by rintro x ⟨⟩; decide) (fun a hF => ?_)
      refine sq_no hF rfl rfl he1 (by rintro x ⟨⟩; decide) (fun a hF => ?_)
      refine sq_val (v_pick_t hF rfl he1 rfl) hF (by decide) (fun a hF => ?_)
      exact sq_nil (then_j ⟨(hF.keep ⟨rfl, rfl, (boolV (or_t he1)), trivial⟩), hS⟩)
    ·
      have he1 : (decide (10 < (u1.length : Int))) = false := nB he1
      refine sq_yes hF rfl rfl he1 ?_
      refine sq_val (v_move hF rfl) hF (by decide) (fun a hF => ?_)
      refine sq_yes hF rfl rfl he1 ?_
      refine sq_val (v_len hF rfl pu37) hF (by decide) (fun a hF => ?_)
      refine sq_yes hF rfl rfl he1 ?_
      refine sq_val (v_gtr hF rfl rfl) hF (by decide) (fun a hF => ?_)
      refine sq_val (v_pick_f hF rfl he1 rfl) hF (by decide) (fun a hF => ?_)
      exact sq_nil (then_j ⟨(hF.keep ⟨rfl, rfl, (boolV (or_f he1)), trivial⟩), hS⟩)

theorem ok_ref01_Whole (k : Nat) {M : Nat → Prop} {w0 : World} {u0 : Arr 12} {o : ByteArray} (hS : St M w0 [] [] [] w0) (h : ref01_Whole k u0 = some o) :
    Calls Try.prog 60 #[.agg (A12u64.enc u0).toArray] w0 fun e W' => ∃ v, e = .returned v ∧ (v = .string (o) ∧ St M w0 [] [] [] W') := by
  unfold ref01_Whole at h
  refine calls_start (args := [.agg (A12u64.enc u0).toArray]) Try.func60 rfl rfl (Nat.le_of_ble_eq_true rfl) (fun a hF => ?_)
  refine wp_seq ?_
  refine wp_reg ?_
  refine sq_box hF hS rfl rfl (by decide) (fun b1 a W hF hS => ?_)
  refine sq_val (v_assign hF rfl) hF (by decide) (fun a hF => ?_)
  refine sq_nil ?_
  refine then_n ?_
  refine wp_seq ?_
  refine wp_reg ?_
  refine sq_val (v_assign hF rfl) hF (by decide) (fun a hF => ?_)
  refine sq_nil ?_
  refine then_n ?_
  refine wp_seq ?_
  refine wp_seq ?_
  refine wp_reg ?_
  refine sq_val (v_assign hF rfl) hF (by decide) (fun a hF => ?_)
  refine sq_nil ?_
  refine then_n ?_
  obtain ⟨o13, h, hk14⟩ := bindS h
  refine wp_join (fun a W => ∃ (x10 : List Int) (A11 : Option Addr) (c12 : Nat), x10 = o13 ∧ FH 35 [(3, .slice A11 ((x10).length) c12)] a ∧ St M w0 [] [⟨(kInt .u8), 5, A11, c12, x10⟩] [] W) (fun a W hJ => ?_) ?_
  ·
    obtain ⟨x10, A11, c12, rfl, hF, hS⟩ := hJ
    have h := hk14
    refine then_n ?_
    refine wp_seq ?_
    refine wp_reg ?_
    refine sq_val (v_move hF rfl) hF (by decide) (fun a hF => ?_)
    refine sq_val (v_toStr hF rfl (hS.rw_ (i := 0) rfl).src pu82 pu5 pu9) hF (by decide) (fun a hF => ?_)
    refine sq_val (v_assign hF rfl) hF (by decide) (fun a hF => ?_)
    refine sq_nil ?_
    refine then_n ?_
    refine wp_ret ?_
    obtain rfl := Option.some.inj h
    exact ret1 hF rfl (rv_tmp hF rfl) ⟨_, rfl, rfl, (hS.keep (List.Sublist.refl _) (List.nil_sublist _) trivial)⟩
  ·
    have hS := hS.addNil (kInt .u8) 5
    refine wp_block ?_
    refine wp_loop_fuel (I := fun m a W => ∃ (x6 : List Int) (x9 : Int) (A7 : Option Addr) (c8 : Nat), FH 35 [(1, .pointer (some (⟨b1, 0, none⟩))), (3, .slice A7 ((x6).length) c8), (4, .int .i64 (x9))] a ∧ St M w0 [⟨b1, A12u64.enc u0, 24⟩] [⟨(kInt .u8), 5, A7, c8, x6⟩] [] W ∧ (ref01_Whole.l0 k u0 m x6 x9) = some o13) ?_ (k := k) ⟨([]), 0, none, 0, (hF.keep ⟨rfl, rfl, rfl, trivial⟩), hS, h⟩
    rintro m15 a W ⟨x6, x9, A7, c8, hF, hS, h⟩
    cases m15 with
    | zero => cases h
    | succ m15 =>
      rw [ref01_Whole.l0] at h
      refine wp_seq ?_
      refine wp_seq ?_
      refine wp_reg ?_
      refine sq_val (v_move hF rfl) hF (by decide) (fun a hF => ?_)
      refine sq_val (v_lss hF rfl rfl) hF (by decide) (fun a hF => ?_)
      refine sq_nil ?_
      refine then_n ?_
      refine wp_if hF rfl (fun he16 => ?_) (fun he16 => ?_)
      ·
        replace h := ifT he16 h
        refine wp_skip ?_
        refine then_n ?_
        refine wp_seq ?_
        refine wp_block ?_
        refine wp_seq ?_
        refine wp_drawn (QC M w0 [⟨b1, A12u64.enc u0, 24⟩] [⟨(kInt .u8), 5, A7, c8, x6⟩] []) (fun _ => false) rfl hS (fun W hB0 hR0 => ?_)
        have hS := hR0
        have hQC : (QC M w0 [⟨b1, A12u64.enc u0, 24⟩] [⟨(kInt .u8), 5, A7, c8, x6⟩] []) W W := ⟨Bl.refl _ _, hS⟩
        refine e_val (listed' := #[true, false, false, false, false, false, false]) 0 rfl (by kernel_rfl) (by kernel_rfl) (fun _ _ _ h => h) (fun W => (v_move hF rfl)) hF (by decide) (fun a hF => ?_)
        obtain ⟨hb17, h⟩ := ifS h
        refine e_val (listed' := #[true, true, false, false, false, false, false]) 1 rfl (by kernel_rfl) (by kernel_rfl) (fun _ _ _ h => h) (fun W => (v_indexAddr hF rfl rfl par24 hb17.1 hb17.2)) hF (by decide) (fun a hF => ?_)
        refine e_valS (listed' := #[true, true, true, false, false, false, false]) 2 rfl (by kernel_rfl) (by kernel_rfl) (fun _ _ _ h => h) (fun W hC => (v_load1 hF rfl pa22 (cells_sub (vs := [.int .u64 ((u0.at x9))]) (hC.2.bc (i := 0) rfl) rfl (A12u64.get u0 x9 hb17.1 hb17.2)))) hQC (by kernel_rfl) hF (by decide) (fun a hF => ?_)
        refine e_val (listed' := #[true, true, true, true, false, false, false]) 3 rfl (by kernel_rfl) (by kernel_rfl) (fun _ _ _ h => h) (fun W => (v_move hF rfl)) hF (by decide) (fun a hF => ?_)
        refine e_one (listed' := #[true, true, true, true, true, false, false]) 4 rfl (by kernel_rfl) (by kernel_rfl) ?_
        obtain ⟨x18, hx19, h⟩ := bindS h
        refine sq_call hF pc110 rfl (by decide) (ok_ref01_Size (hS.enter trivial) hx19) (fun v W hR a hF => ?_)
        obtain ⟨rfl, hT20⟩ := hR
        have hS := hS.grow hT20.below
        refine sq_nil (then_j ⟨?_, ?_⟩)
        · exact fun hQ0 _ => hQ0.next hT20.below
        ·
          have hQC := hQC.next hT20.below
          refine e_one (listed' := #[true, true, true, true, true, true, false]) 5 rfl (by kernel_rfl) (by kernel_rfl) ?_
          obtain ⟨x21, hx22, h⟩ := bindS h
          refine sq_call hF pc109 rfl (by decide) (ok_ref01_Bits k (hS.enter trivial) hx22) (fun v W hR a hF => ?_)
          obtain ⟨A23, c24, rfl, hT25⟩ := hR
          have hS := hS.join hT25
          refine sq_nil (then_j ⟨?_, ?_⟩)
          · exact fun hQ0 _ => hQ0.next hT25.below
          ·
            have hQC := hQC.next hT25.below
            refine e_val (listed' := #[true, true, true, true, true, true, true]) 6 rfl (by kernel_rfl) (by kernel_rfl) (fun _ _ _ h => h) (fun W => (v_assign hF rfl)) hF (by decide) (fun a hF => ?_)
            refine e_done (by kernel_rfl) ?_ _
            refine then_n ?_
            refine wp_seq ?_
            refine wp_reg ?_
            refine sq_val (v_assign hF rfl) hF (by decide) (fun a hF => ?_)
            refine sq_nil ?_
            refine then_n ?_
            obtain ⟨o37, h, hk38⟩ := bindS h
            refine wp_join (fun a W => ∃ (x34 : List Int) (A35 : Option Addr) (c36 : Nat), x34 = o37 ∧ FH 35 [(1, .pointer (some (⟨b1, 0, none⟩))), (3, .slice A35 ((x34).length) c36), (4, .int .i64 (x9))] a ∧ St M w0 [⟨b1, A12u64.enc u0, 24⟩] [⟨(kInt .u8), 5, A35, c36, x34⟩] [] W) (fun a W hJ => ?_) ?_
            ·
              obtain ⟨x34, A35, c36, rfl, hF, hS⟩ := hJ
              have h := hk38
              refine blk_n ?_
              refine then_n ?_
              refine wp_reg ?_
              refine sq_val (v_move hF rfl) hF (by decide) (fun a hF => ?_)
              refine sq_val (v_add hF rfl rfl) hF (by decide) (fun a hF => ?_)
              refine sq_val (v_assign hF rfl) hF (by decide) (fun a hF => ?_)
              refine sq_nil ?_
              exact then_j ⟨m15, Nat.lt_succ_self _, x34, (IntKind.i64.wrap (x9 + 1)), A35, c36, (hF.keep ⟨rfl, rfl, rfl, trivial⟩), hS, h⟩
            ·
              have hS := hS.perm (List.Perm.refl _) (.trans (.swap _ _ _) (List.Perm.refl _))
              refine wp_block ?_
              refine wp_loop_fuel (I := fun m a W => ∃ (x30 : List Int) (x33 : Int) (A31 : Option Addr) (c32 : Nat), FH 35 [(1, .pointer (some (⟨b1, 0, none⟩))), (3, .slice A31 ((x30).length) c32), (4, .int .i64 (x9)), (5, .slice A23 ((x21).length) c24), (6, .int .i64 (x33))] a ∧ St M w0 [⟨b1, A12u64.enc u0, 24⟩] [⟨(kInt .u8), 5, A31, c32, x30⟩, ⟨kBool, 4, A23, c24, x21⟩] [] W ∧ (ref01_Whole.l1 k x21 m x30 x33) = some o37) ?_ (k := k) ⟨x6, 0, A7, c8, (hF.keep ⟨rfl, rfl, rfl, rfl, rfl, trivial⟩), hS, h⟩
              rintro m39 a W ⟨x30, x33, A31, c32, hF, hS, h⟩
              cases m39 with
              | zero => cases h
              | succ m39 =>
                rw [ref01_Whole.l1] at h
                refine wp_seq ?_
                refine wp_seq ?_
                refine wp_reg ?_
                refine sq_val (v_move hF rfl) hF (by decide) (fun a hF => ?_)
                refine sq_val (v_move hF rfl) hF (by decide) (fun a hF => ?_)
                refine sq_val (v_len hF rfl pu116) hF (by decide) (fun a hF => ?_)
                refine sq_val (v_lss hF rfl rfl) hF (by decide) (fun a hF => ?_)
                refine sq_nil ?_
                refine then_n ?_
                refine wp_if hF rfl (fun he40 => ?_) (fun he40 => ?_)
                ·
                  replace h := ifT he40 h
                  refine wp_skip ?_
                  refine then_n ?_
                  refine wp_seq ?_
                  obtain ⟨o44, h, hk45⟩ := bindS h
                  refine wp_join (fun a W => ∃ (x41 : List Int) (A42 : Option Addr) (c43 : Nat), x41 = o44 ∧ FH 35 [(1, .pointer (some (⟨b1, 0, none⟩))), (3, .slice A42 ((x41).length) c43), (4, .int .i64 (x9)), (5, .slice A23 ((x21).length) c24), (6, .int .i64 (x33))] a ∧ St M w0 [⟨b1, A12u64.enc u0, 24⟩] [⟨(kInt .u8), 5, A42, c43, x41⟩, ⟨kBool, 4, A23, c24, x21⟩] [] W) (fun a W hJ => ?_) ?_
                  ·
                    obtain ⟨x41, A42, c43, rfl, hF, hS⟩ := hJ
                    have h := hk45
                    refine then_n ?_
                    refine wp_reg ?_
                    refine sq_val (v_move hF rfl) hF (by decide) (fun a hF => ?_)
                    refine sq_val (v_add hF rfl rfl) hF (by decide) (fun a hF => ?_)
                    refine sq_val (v_assign hF rfl) hF (by decide) (fun a hF => ?_)
                    refine sq_nil ?_
                    exact then_j ⟨m39, Nat.lt_succ_self _, x41, (IntKind.i64.wrap (x33 + 1)), A42, c43, (hF.keep ⟨rfl, rfl, rfl, rfl, rfl, trivial⟩), hS, h⟩
                  ·
                    refine wp_block ?_
                    refine wp_seq ?_
                    refine wp_reg ?_
                    refine sq_val (v_move hF rfl) hF (by decide) (fun a hF => ?_)
                    refine sq_val (v_move hF rfl) hF (by decide) (fun a hF => ?_)
                    obtain ⟨x46, hx47, h⟩ := bindS h
                    obtain ⟨p48, cs49, hA50, hc52, hr53⟩ := Row.ok.at (hS.rw_ (i := 1) rfl) hx47
                    obtain rfl : cs49 = [.bool (x46)] := hr53
                    refine sq_val (v_idx hF rfl hA50 rfl psl116 hx47) hF (by decide) (fun a hF => ?_)
                    refine sq_val (v_load1 hF rfl pa4 hc52) hF (by decide) (fun a hF => ?_)
                    refine sq_nil ?_
                    refine then_n ?_
                    obtain ⟨o57, h, hk58⟩ := bindS h
                    refine wp_join (fun a W => ∃ (x54 : List Int) (A55 : Option Addr) (c56 : Nat), x54 = o57 ∧ FH 35 [(1, .pointer (some (⟨b1, 0, none⟩))), (3, .slice A55 ((x54).length) c56), (4, .int .i64 (x9)), (5, .slice A23 ((x21).length) c24), (6, .int .i64 (x33))] a ∧ St M w0 [⟨b1, A12u64.enc u0, 24⟩] [⟨(kInt .u8), 5, A55, c56, x54⟩, ⟨kBool, 4, A23, c24, x21⟩] [] W) (fun a W hJ => ?_) ?_
                    ·
                      obtain ⟨x54, A55, c56, rfl, hF, hS⟩ := hJ
                      have h := hk58
                      refine blk_n ?_
                      obtain rfl := Option.some.inj h
                      exact then_j ⟨x54, A55, c56, rfl, (hF.keep ⟨rfl, rfl, rfl, rfl, rfl, trivial⟩), hS⟩
                    ·
                      refine wp_if hF rfl (fun he59 => ?_) (fun he59 => ?_)
                      ·
                        replace h := ifT he59 h
                        refine wp_reg ?_
                        refine sq_val (v_move hF rfl) hF (by decide) (fun a hF => ?_)
                        refine sq_buildSlice (κ := (kInt .u8)) (xs := [.const (.int .u8 49)]) (ys := [49]) hF hS rfl rfl rfl (Els.cons rfl (Els.nil _ _ _)) rfl psl82 pz5 rfl (by decide) (by decide) (by decide) (fun A60 c61 a W hF hS => ?_)
                        obtain ⟨x64, hx65, h⟩ := bindS h
                        refine sq_append (ys := ([49])) hF hS (i := 1) rfl rfl rfl (hS.rw_ (i := 0) rfl).src psl82 pb5 pz5 rfl (by decide) (by decide) hx65 (by decide) (fun A62 c63 a W hF hS => ?_)
                        refine sq_val (v_assign hF rfl) hF (by decide) (fun a hF => ?_)
                        refine sq_nil ?_
                        obtain rfl := Option.some.inj h
                        exact then_j ⟨x64, A62, c63, rfl, (hF.keep ⟨rfl, rfl, rfl, rfl, rfl, trivial⟩), (hS.keep (List.Sublist.refl _) (.cons _ (List.Sublist.refl _)) trivial)⟩
                      ·
                        replace h := ifF he59 h
                        refine wp_reg ?_
                        refine sq_val (v_move hF rfl) hF (by decide) (fun a hF => ?_)
                        refine sq_buildSlice (κ := (kInt .u8)) (xs := [.const (.int .u8 48)]) (ys := [48]) hF hS rfl rfl rfl (Els.cons rfl (Els.nil _ _ _)) rfl psl82 pz5 rfl (by decide) (by decide) (by decide) (fun A66 c67 a W hF hS => ?_)
                        obtain ⟨x70, hx71, h⟩ := bindS h
                        refine sq_append (ys := ([48])) hF hS (i := 1) rfl rfl rfl (hS.rw_ (i := 0) rfl).src psl82 pb5 pz5 rfl (by decide) (by decide) hx71 (by decide) (fun A68 c69 a W hF hS => ?_)
                        refine sq_val (v_assign hF rfl) hF (by decide) (fun a hF => ?_)
                        refine sq_nil ?_
                        obtain rfl := Option.some.inj h
                        exact then_j ⟨x70, A68, c69, rfl, (hF.keep ⟨rfl, rfl, rfl, rfl, rfl, trivial⟩), (hS.keep (List.Sublist.refl _) (.cons _ (List.Sublist.refl _)) trivial)⟩
                ·
                  replace h := ifF he40 h
                  refine wp_exit ?_
                  refine then_x ?_
                  refine then_x ?_
                  refine blk_hit ?_
                  obtain rfl := Option.some.inj h
                  exact then_j ⟨x30, A31, c32, rfl, (hF.keep ⟨rfl, rfl, rfl, trivial⟩), (hS.keep (List.Sublist.refl _) (.cons_cons _ (List.nil_sublist _)) trivial)⟩
      ·
        replace h := ifF he16 h
        refine wp_exit ?_
        refine then_x ?_
        refine then_x ?_
        refine blk_hit ?_
        obtain rfl := Option.some.inj h
        exact then_j ⟨x6, A7, c8, rfl, (hF.keep ⟨rfl, trivial⟩), (hS.keep (List.nil_sublist _) (List.Sublist.refl _) trivial)⟩
end Go.Proofs.Ytangebngeeamoaa
