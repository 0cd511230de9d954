/- What calls of the Go functions come to. -/
import Derived.Test.YtangebngeeamoaaW8
set_option linter.unusedVariables false
set_option linter.unusedSimpArgs false
set_option maxRecDepth 100000
set_option maxHeartbeats 4000000
namespace Go.Proofs.Ytangebngeeamoaa
open Go.RowKit Go.Pod
theorem ok_space_Meet (k : Nat) {M : Nat → Prop} {w0 : World} {u0 : List TCube} {A0_0 : Option Addr} {c0_0 : Nat} {u1 : List TCube} {A1_0 : Option Addr} {c1_0 : Nat} {o : (List TCube) × Int} (hS : St M w0 [] [] [fSl k_TCube A0_0 c0_0 u0, fSl k_TCube A1_0 c1_0 u1] w0) (h : space_Meet k u0 u1 = some o) :
    Calls Try.prog 46 #[.slice A0_0 ((u0).length) c0_0, .slice A1_0 ((u1).length) c1_0] w0 fun e W' => ∃ v, e = .returned v ∧ (∃ (A82 : Option Addr) (c83 : Nat), v = .tuple #[.slice A82 ((o.1).length) c83, .int .i64 (o.2)] ∧ St M w0 [] [⟨k_TCube, 26, A82, c83, o.1⟩] [] W') := by
  unfold space_Meet at h
  refine calls_start (args := [.slice A0_0 ((u0).length) c0_0, .slice A1_0 ((u1).length) c1_0]) Try.func46 rfl rfl (Nat.le_of_ble_eq_true rfl) (fun a hF => ?_)
  refine wp_seq ?_
  refine wp_reg ?_
  refine sq_val (v_assign hF rfl) hF (by decide) (fun a hF => ?_)
  refine sq_val (v_assign hF rfl) hF (by decide) (fun a hF => ?_)
  refine sq_nil ?_
  refine then_n ?_
  refine wp_seq ?_
  refine wp_seq ?_
  refine wp_reg ?_
  refine sq_val (v_move hF rfl) hF (by decide) (fun a hF => ?_)
  obtain ⟨x1, hx2, h⟩ := bindS h
  refine sq_call hF pc38 rfl (by decide) (ok_space_Sound k (hS.enter ⟨⟨0, rfl⟩, trivial⟩) hx2) (fun v W hR a hF => ?_)
  obtain ⟨rfl, hT3⟩ := hR
  have hS := hS.grow hT3.below
  refine sq_val (v_not hF rfl) hF (by decide) (fun a hF => ?_)
  refine sq_val (v_move hF rfl) hF (by decide) (fun a hF => ?_)
  obtain ⟨x5, h, hk7⟩ := bindS h
  refine sq_cut 4 (fun a W => FH 50 [(0, .slice A0_0 ((u0).length) c0_0), (1, .slice A1_0 ((u1).length) c1_0), (20, .bool x5)] a ∧ St M w0 [] [] [fSl k_TCube A0_0 c0_0 u0, fSl k_TCube A1_0 c1_0 u1] W) (fun a W hJ => ?_) ?_
  ·
    have h := hk7
    obtain ⟨hF, hS⟩ := hJ
    refine sq_nil ?_
    refine then_n ?_
    refine wp_if hF rfl (fun he11 => ?_) (fun he11 => ?_)
    ·
      replace h := ifT he11 h
      refine wp_seq ?_
      refine wp_reg ?_
      refine sq_val (v_assign hF rfl) hF (by decide) (fun a hF => ?_)
      refine sq_val (v_assign hF rfl) hF (by decide) (fun a hF => ?_)
      refine sq_nil ?_
      refine then_n ?_
      refine wp_ret ?_
      refine then_r ?_
      have hS := hS.addNil k_TCube 26
      obtain rfl := Option.some.inj h
      exact ret2 hF rfl (rv_tmp hF rfl) (rv_tmp hF rfl) ⟨_, rfl, none, 0, rfl, (hS.keep (List.Sublist.refl _) (List.Sublist.refl _) trivial)⟩
    ·
      replace h := ifF he11 h
      refine wp_skip ?_
      refine then_n ?_
      refine wp_seq ?_
      refine wp_reg ?_
      refine sq_val (v_assign hF rfl) hF (by decide) (fun a hF => ?_)
      refine sq_nil ?_
      refine then_n ?_
      refine wp_seq ?_
      refine wp_seq ?_
      refine wp_reg ?_
      refine sq_val (v_move hF rfl) hF (by decide) (fun a hF => ?_)
      refine sq_val (v_len hF rfl pu29) hF (by decide) (fun a hF => ?_)
      refine sq_val (v_move hF rfl) hF (by decide) (fun a hF => ?_)
      refine sq_nil ?_
      refine then_n ?_
      obtain ⟨o23, h, hk24⟩ := bindS h
      refine wp_join (fun a W => ∃ (x20 : List TCube) (A21 : Option Addr) (c22 : Nat), x20 = o23 ∧ FH 50 [(6, .slice A21 ((x20).length) c22)] a ∧ St M w0 [] [⟨k_TCube, 26, A21, c22, x20⟩] [] W) (fun a W hJ => ?_) ?_
      ·
        obtain ⟨x20, A21, c22, rfl, hF, hS⟩ := hJ
        have h := hk24
        refine then_n ?_
        refine wp_seq ?_
        refine wp_reg ?_
        refine sq_val (v_move hF rfl) hF (by decide) (fun a hF => ?_)
        have hS := hS.freeze (i := 0) rfl (posB rfl)
        obtain ⟨x25, hx26, h⟩ := bindS h
        refine sq_call hF pc103 rfl (by decide) (ok_space_lean k (hS.enter ⟨⟨0, rfl⟩, trivial⟩) hx26) (fun v W hR a hF => ?_)
        obtain ⟨A27, c28, rfl, hT29⟩ := hR
        have hS := hS.join hT29
        refine sq_val (v_extract hF rfl rfl) hF (by decide) (fun a hF => ?_)
        refine sq_val (v_extract hF rfl rfl) hF (by decide) (fun a hF => ?_)
        refine sq_val (v_assign hF rfl) hF (by decide) (fun a hF => ?_)
        refine sq_val (v_assign hF rfl) hF (by decide) (fun a hF => ?_)
        refine sq_nil ?_
        refine then_n ?_
        refine wp_ret ?_
        obtain rfl := Option.some.inj h
        exact ret2 hF rfl (rv_tmp hF rfl) (rv_tmp hF rfl) ⟨_, rfl, A27, c28, rfl, (hS.keep (List.Sublist.refl _) (List.Sublist.refl _) trivial)⟩
      ·
        have hS := hS.addNil k_TCube 26
        refine wp_block ?_
        refine wp_loop_fuel (I := fun m a W => ∃ (x16 : List TCube) (x19 : Int) (A17 : Option Addr) (c18 : Nat), FH 50 [(1, .slice A1_0 ((u1).length) c1_0), (6, .slice A17 ((x16).length) c18), (21, .slice A0_0 ((u0).length) c0_0), (22, .int .i64 ((u0.length : Int))), (23, .int .i64 (x19))] a ∧ St M w0 [] [⟨k_TCube, 26, A17, c18, x16⟩] [fSl k_TCube A0_0 c0_0 u0, fSl k_TCube A1_0 c1_0 u1] W ∧ (space_Meet.l0 k u0 u1 m x16 x19) = some o23) ?_ (k := k) ⟨([]), 0, none, 0, (hF.keep ⟨rfl, rfl, rfl, rfl, rfl, trivial⟩), hS, h⟩
        rintro m30 a W ⟨x16, x19, A17, c18, hF, hS, h⟩
        cases m30 with
        | zero => cases h
        | succ m30 =>
          rw [space_Meet.l0] at h
          refine wp_seq ?_
          refine wp_reg ?_
          refine sq_val (v_lss hF rfl rfl) hF (by decide) (fun a hF => ?_)
          refine sq_nil ?_
          refine then_n ?_
          refine wp_seq ?_
          refine wp_if hF rfl (fun he31 => ?_) (fun he31 => ?_)
          ·
            replace h := ifT he31 h
            refine wp_skip ?_
            refine then_n ?_
            refine wp_seq ?_
            refine wp_block ?_
            refine wp_seq ?_
            refine wp_reg ?_
            obtain ⟨x32, hx33, h⟩ := bindS h
            obtain ⟨p34, cs35, hA36, hat37⟩ := SlR.at (hS.fc (i := 0) rfl) hx33
            obtain rfl : cs35 = TCube.enc x32 := hat37.2.2.2
            have hS := hS.addFact (f := fAt k_TCube (p34.add (x19.toNat * 24)) (TCube.enc x32) x32) hat37
            refine sq_val (v_idx hF rfl hA36 rfl psl29 hx33) hF (by decide) (fun a hF => ?_)
            refine sq_val (v_load (cs := TCube.enc x32) hF rfl pa26 ps26 (hS.pc (i := 0) rfl)) hF (by decide) (fun a hF => ?_)
            refine sq_alloc hF hS pz26 rfl (by decide) (fun b38 a W hF hS => ?_)
            refine sq_store (o := 0) (vs := TCube.enc x32) (cs' := TCube.enc x32) hF hS rfl rfl (i := 0) rfl rfl rfl ps26 (TCube.enc_one _) (Nat.le_of_ble_eq_true rfl) rfl (fun W hS => ?_)
            refine sq_nil ?_
            refine then_n ?_
            refine wp_seq ?_
            refine wp_reg ?_
            refine sq_val (v_move hF rfl) hF (by decide) (fun a hF => ?_)
            refine sq_val (v_len hF rfl pu29) hF (by decide) (fun a hF => ?_)
            refine sq_val (v_move hF rfl) hF (by decide) (fun a hF => ?_)
            refine sq_nil ?_
            refine then_n ?_
            obtain ⟨o50, h, hk51⟩ := bindS h
            refine wp_join (fun a W => ∃ (x47 : List TCube) (A48 : Option Addr) (c49 : Nat), x47 = o50 ∧ FH 50 [(1, .slice A1_0 ((u1).length) c1_0), (6, .slice A48 ((x47).length) c49), (21, .slice A0_0 ((u0).length) c0_0), (22, .int .i64 ((u0.length : Int))), (23, .int .i64 (x19))] a ∧ St M w0 [] [⟨k_TCube, 26, A48, c49, x47⟩] [fSl k_TCube A0_0 c0_0 u0, fSl k_TCube A1_0 c1_0 u1] W) (fun a W hJ => ?_) ?_
            ·
              obtain ⟨x47, A48, c49, rfl, hF, hS⟩ := hJ
              have h := hk51
              refine blk_n ?_
              refine then_n ?_
              refine wp_reg ?_
              refine sq_val (v_add hF rfl rfl) hF (by decide) (fun a hF => ?_)
              refine sq_val (v_move hF rfl) hF (by decide) (fun a hF => ?_)
              refine sq_nil ?_
              exact then_j ⟨m30, Nat.lt_succ_self _, x47, (IntKind.i64.wrap (x19 + 1)), A48, c49, (hF.keep ⟨rfl, rfl, rfl, rfl, rfl, trivial⟩), hS, h⟩
            ·
              refine wp_block ?_
              refine wp_loop_fuel (I := fun m a W => ∃ (x43 : List TCube) (x46 : Int) (A44 : Option Addr) (c45 : Nat), FH 50 [(1, .slice A1_0 ((u1).length) c1_0), (6, .slice A44 ((x43).length) c45), (8, .pointer (some (⟨b38, 0, none⟩))), (21, .slice A0_0 ((u0).length) c0_0), (22, .int .i64 ((u0.length : Int))), (23, .int .i64 (x19)), (27, .slice A1_0 ((u1).length) c1_0), (28, .int .i64 ((u1.length : Int))), (29, .int .i64 (x46))] a ∧ St M w0 [⟨b38, TCube.enc x32, 26⟩] [⟨k_TCube, 26, A44, c45, x43⟩] [fSl k_TCube A0_0 c0_0 u0, fSl k_TCube A1_0 c1_0 u1] W ∧ (space_Meet.l1 k u1 x32 m x43 x46) = some o50) ?_ (k := k) ⟨x16, 0, A17, c18, (hF.keep ⟨rfl, rfl, rfl, rfl, rfl, rfl, rfl, rfl, rfl, trivial⟩), (hS.keep (List.Sublist.refl _) (List.Sublist.refl _) ⟨⟨1, rfl⟩, ⟨2, rfl⟩, trivial⟩), h⟩
              rintro m52 a W ⟨x43, x46, A44, c45, hF, hS, h⟩
              cases m52 with
              | zero => cases h
              | succ m52 =>
                rw [space_Meet.l1] at h
                refine wp_seq ?_
                refine wp_reg ?_
                refine sq_val (v_lss hF rfl rfl) hF (by decide) (fun a hF => ?_)
                refine sq_nil ?_
                refine then_n ?_
                refine wp_seq ?_
                refine wp_if hF rfl (fun he53 => ?_) (fun he53 => ?_)
                ·
                  replace h := ifT he53 h
                  refine wp_skip ?_
                  refine then_n ?_
                  refine wp_seq ?_
                  obtain ⟨o57, h, hk58⟩ := bindS h
                  refine wp_join (fun a W => ∃ (x54 : List TCube) (A55 : Option Addr) (c56 : Nat), x54 = o57 ∧ FH 50 [(1, .slice A1_0 ((u1).length) c1_0), (6, .slice A55 ((x54).length) c56), (8, .pointer (some (⟨b38, 0, none⟩))), (21, .slice A0_0 ((u0).length) c0_0), (22, .int .i64 ((u0.length : Int))), (23, .int .i64 (x19)), (27, .slice A1_0 ((u1).length) c1_0), (28, .int .i64 ((u1.length : Int))), (29, .int .i64 (x46))] a ∧ St M w0 [⟨b38, TCube.enc x32, 26⟩] [⟨k_TCube, 26, A55, c56, x54⟩] [fSl k_TCube A0_0 c0_0 u0, fSl k_TCube A1_0 c1_0 u1] W) (fun a W hJ => ?_) ?_
                  ·
                    obtain ⟨x54, A55, c56, rfl, hF, hS⟩ := hJ
                    have h := hk58
                    refine then_n ?_
                    refine wp_reg ?_
                    refine sq_val (v_add hF rfl rfl) hF (by decide) (fun a hF => ?_)
                    refine sq_val (v_move hF rfl) hF (by decide) (fun a hF => ?_)
                    refine sq_nil ?_
                    exact then_j ⟨m52, Nat.lt_succ_self _, x54, (IntKind.i64.wrap (x46 + 1)), A55, c56, (hF.keep ⟨rfl, rfl, rfl, rfl, rfl, rfl, rfl, rfl, rfl, trivial⟩), hS, h⟩
                  ·
                    refine wp_block ?_
                    refine wp_seq ?_
                    refine wp_reg ?_
                    obtain ⟨x59, hx60, h⟩ := bindS h
                    obtain ⟨p61, cs62, hA63, hat64⟩ := SlR.at (hS.fc (i := 1) rfl) hx60
                    obtain rfl : cs62 = TCube.enc x59 := hat64.2.2.2
                    have hS := hS.addFact (f := fAt k_TCube (p61.add (x46.toNat * 24)) (TCube.enc x59) x59) hat64
                    refine sq_val (v_idx hF rfl hA63 rfl psl29 hx60) hF (by decide) (fun a hF => ?_)
                    refine sq_val (v_load (cs := TCube.enc x59) hF rfl pa26 ps26 (hS.pc (i := 0) rfl)) hF (by decide) (fun a hF => ?_)
                    refine sq_alloc hF hS pz26 rfl (by decide) (fun b65 a W hF hS => ?_)
                    refine sq_store (o := 0) (vs := TCube.enc x59) (cs' := TCube.enc x59) hF hS rfl rfl (i := 0) rfl rfl rfl ps26 (TCube.enc_one _) (Nat.le_of_ble_eq_true rfl) rfl (fun W hS => ?_)
                    refine sq_nil ?_
                    refine then_n ?_
                    refine wp_seq ?_
                    refine wp_reg ?_
                    refine sq_val (v_load (cs := TCube.enc x32) hF rfl pa26 ps26 (hS.bc (i := 1) rfl)) hF (by decide) (fun a hF => ?_)
                    refine sq_val (v_load (cs := TCube.enc x59) hF rfl pa26 ps26 (hS.bc (i := 0) rfl)) hF (by decide) (fun a hF => ?_)
                    obtain ⟨x66, hx67, h⟩ := bindS h
                    refine sq_call hF pc12 rfl (by decide) (ok_cube_Meet k (hS.enter trivial) hx67) (fun v W hR a hF => ?_)
                    obtain ⟨rfl, hT68⟩ := hR
                    have hS := hS.grow hT68.below
                    refine sq_val (v_move hF rfl) hF (by decide) (fun a hF => ?_)
                    refine sq_val (v_extract hF rfl rfl) hF (by decide) (fun a hF => ?_)
                    refine sq_val (v_extract hF rfl rfl) hF (by decide) (fun a hF => ?_)
                    refine sq_alloc hF hS pz26 rfl (by decide) (fun b69 a W hF hS => ?_)
                    refine sq_store (o := 0) (vs := TCube.enc x66.1) (cs' := TCube.enc x66.1) hF hS rfl rfl (i := 0) rfl rfl rfl ps26 (TCube.enc_one _) (Nat.le_of_ble_eq_true rfl) rfl (fun W hS => ?_)
                    refine sq_val (v_assign hF rfl) hF (by decide) (fun a hF => ?_)
                    refine sq_nil ?_
                    refine then_n ?_
                    refine wp_seq ?_
                    refine wp_reg ?_
                    refine sq_val (v_move hF rfl) hF (by decide) (fun a hF => ?_)
                    refine sq_nil ?_
                    refine then_n ?_
                    obtain ⟨o73, h, hk74⟩ := bindS h
                    refine wp_join (fun a W => ∃ (x70 : List TCube) (A71 : Option Addr) (c72 : Nat), x70 = o73 ∧ FH 50 [(1, .slice A1_0 ((u1).length) c1_0), (6, .slice A71 ((x70).length) c72), (8, .pointer (some (⟨b38, 0, none⟩))), (21, .slice A0_0 ((u0).length) c0_0), (22, .int .i64 ((u0.length : Int))), (23, .int .i64 (x19)), (27, .slice A1_0 ((u1).length) c1_0), (28, .int .i64 ((u1.length : Int))), (29, .int .i64 (x46))] a ∧ St M w0 [⟨b38, TCube.enc x32, 26⟩] [⟨k_TCube, 26, A71, c72, x70⟩] [fSl k_TCube A0_0 c0_0 u0, fSl k_TCube A1_0 c1_0 u1] W) (fun a W hJ => ?_) ?_
                    ·
                      obtain ⟨x70, A71, c72, rfl, hF, hS⟩ := hJ
                      have h := hk74
                      refine blk_n ?_
                      obtain rfl := Option.some.inj h
                      exact then_j ⟨x70, A71, c72, rfl, (hF.keep ⟨rfl, rfl, rfl, rfl, rfl, rfl, rfl, rfl, rfl, trivial⟩), hS⟩
                    ·
                      refine wp_if hF rfl (fun he75 => ?_) (fun he75 => ?_)
                      ·
                        replace h := ifT he75 h
                        refine wp_reg ?_
                        refine sq_val (v_move hF rfl) hF (by decide) (fun a hF => ?_)
                        refine sq_val (v_load (cs := TCube.enc x66.1) hF rfl pa26 ps26 (hS.bc (i := 0) rfl)) hF (by decide) (fun a hF => ?_)
                        refine sq_buildSlice (κ := k_TCube) (xs := [.tmp 41]) (ys := [x66.1]) hF hS rfl rfl rfl (Els.cons rfl (Els.nil _ _ _)) rfl psl29 pz26 rfl (by decide) (by decide) (by decide) (fun A76 c77 a W hF hS => ?_)
                        obtain ⟨x80, hx81, h⟩ := bindS h
                        refine sq_append (ys := ([x66.1])) hF hS (i := 1) rfl rfl rfl (hS.rw_ (i := 0) rfl).src psl29 pb26 pz26 rfl (by decide) (by decide) hx81 (by decide) (fun A78 c79 a W hF hS => ?_)
                        refine sq_val (v_assign hF rfl) hF (by decide) (fun a hF => ?_)
                        refine sq_nil ?_
                        obtain rfl := Option.some.inj h
                        exact then_j ⟨x80, A78, c79, rfl, (hF.keep ⟨rfl, rfl, rfl, rfl, rfl, rfl, rfl, rfl, rfl, trivial⟩), (hS.keep (.cons _ (.cons _ (List.Sublist.refl _))) (.cons _ (List.Sublist.refl _)) ⟨⟨1, rfl⟩, ⟨2, rfl⟩, trivial⟩)⟩
                      ·
                        replace h := ifF he75 h
                        refine wp_skip ?_
                        obtain rfl := Option.some.inj h
                        exact then_j ⟨x43, A44, c45, rfl, (hF.keep ⟨rfl, rfl, rfl, rfl, rfl, rfl, rfl, rfl, rfl, trivial⟩), (hS.keep (.cons _ (.cons _ (List.Sublist.refl _))) (List.Sublist.refl _) ⟨⟨1, rfl⟩, ⟨2, rfl⟩, trivial⟩)⟩
                ·
                  replace h := ifF he53 h
                  refine wp_exit ?_
                  refine then_x ?_
                  refine then_x ?_
                  refine blk_hit ?_
                  obtain rfl := Option.some.inj h
                  exact then_j ⟨x43, A44, c45, rfl, (hF.keep ⟨rfl, rfl, rfl, rfl, rfl, trivial⟩), (hS.keep (List.nil_sublist _) (List.Sublist.refl _) ⟨⟨0, rfl⟩, ⟨1, rfl⟩, trivial⟩)⟩
          ·
            replace h := ifF he31 h
            refine wp_exit ?_
            refine then_x ?_
            refine then_x ?_
            refine blk_hit ?_
            obtain rfl := Option.some.inj h
            exact then_j ⟨x16, A17, c18, rfl, (hF.keep ⟨rfl, trivial⟩), (hS.keep (List.Sublist.refl _) (List.Sublist.refl _) trivial)⟩
  ·
    by_cases he4 : (!x1) = true
    ·
      replace h := ifT he4 h
      refine sq_no hF rfl rfl he4 (by rintro x ⟨⟩; decide) (fun a hF => ?_)
      refine sq_no hF rfl rfl he4 (by rintro x ⟨⟩; decide) (fun a hF => ?_)
      refine sq_no hF rfl rfl he4 (by rintro x ⟨⟩; decide) (fun a hF => ?_)
      refine sq_val (v_pick_t hF rfl he4 rfl) hF (by decide) (fun a hF => ?_)
      obtain rfl := Option.some.inj h
      exact sq_nil (then_j ⟨(hF.keep ⟨rfl, rfl, rfl, trivial⟩), hS⟩)
    ·
      have he4 : (!x1) = false := nB he4
      replace h := ifF he4 h
      refine sq_yes hF rfl rfl he4 ?_
      refine sq_val (v_move hF rfl) hF (by decide) (fun a hF => ?_)
      refine sq_yes hF rfl rfl he4 ?_
      obtain ⟨x8, hx9, h⟩ := bindS h
      refine sq_call hF pc38 rfl (by decide) (ok_space_Sound k (hS.enter ⟨⟨1, rfl⟩, trivial⟩) hx9) (fun v W hR a hF => ?_)
      obtain ⟨rfl, hT10⟩ := hR
      have hS := hS.grow hT10.below
      refine sq_yes hF rfl rfl he4 ?_
      refine sq_val (v_not hF rfl) hF (by decide) (fun a hF => ?_)
      refine sq_val (v_pick_f hF rfl he4 rfl) hF (by decide) (fun a hF => ?_)
      obtain rfl := Option.some.inj h
      exact sq_nil (then_j ⟨(hF.keep ⟨rfl, rfl, rfl, trivial⟩), hS⟩)

theorem ok_law03_SpaceKeeps (k : Nat) {M : Nat → Prop} {w0 : World} {u0 : List TCube} {A0_0 : Option Addr} {c0_0 : Nat} {u1 : List TCube} {A1_0 : Option Addr} {c1_0 : Nat} {o : Bool} (hS : St M w0 [] [] [fSl k_TCube A0_0 c0_0 u0, fSl k_TCube A1_0 c1_0 u1] w0) (h : law03_SpaceKeeps k u0 u1 = some o) :
    Calls Try.prog 9 #[.slice A0_0 ((u0).length) c0_0, .slice A1_0 ((u1).length) c1_0] w0 fun e W' => ∃ v, e = .returned v ∧ (v = .bool (o) ∧ St M w0 [] [] [] W') := by
  unfold law03_SpaceKeeps at h
  refine calls_start (args := [.slice A0_0 ((u0).length) c0_0, .slice A1_0 ((u1).length) c1_0]) Try.func9 rfl rfl (Nat.le_of_ble_eq_true rfl) (fun a hF => ?_)
  refine wp_seq ?_
  refine wp_reg ?_
  refine sq_val (v_assign hF rfl) hF (by decide) (fun a hF => ?_)
  refine sq_nil ?_
  refine then_n ?_
  refine wp_seq ?_
  refine wp_seq ?_
  refine wp_reg ?_
  refine sq_val (v_move hF rfl) hF (by decide) (fun a hF => ?_)
  obtain ⟨x1, hx2, h⟩ := bindS h
  refine sq_call hF pc42 rfl (by decide) (ok_law03_few (hS.enter ⟨⟨0, rfl⟩, trivial⟩) hx2) (fun v W hR a hF => ?_)
  obtain ⟨rfl, hT3⟩ := hR
  have hS := hS.grow hT3.below
  refine sq_val (v_not hF rfl) hF (by decide) (fun a hF => ?_)
  refine sq_val (v_move hF rfl) hF (by decide) (fun a hF => ?_)
  obtain ⟨x5, h, hk7⟩ := bindS h
  refine sq_cut 4 (fun a W => FH 88 [(0, .slice A0_0 ((u0).length) c0_0), (1, .slice A1_0 ((u1).length) c1_0), (22, .bool x5)] a ∧ St M w0 [] [] [fSl k_TCube A0_0 c0_0 u0, fSl k_TCube A1_0 c1_0 u1] W) (fun a W hJ => ?_) ?_
  ·
    have h := hk7
    obtain ⟨hF, hS⟩ := hJ
    refine sq_nil ?_
    refine then_n ?_
    refine wp_if hF rfl (fun he11 => ?_) (fun he11 => ?_)
    ·
      replace h := ifT he11 h
      refine wp_seq ?_
      refine wp_reg ?_
      obtain ⟨x12, hx13, h⟩ := bindS h
      refine sq_call hF pc36 rfl (by decide) (ok_law03_answers k (hS.enter trivial) hx13) (fun v W hR a hF => ?_)
      obtain ⟨rfl, hT14⟩ := hR
      have hS := hS.grow hT14.below
      refine sq_val (v_assign hF rfl) hF (by decide) (fun a hF => ?_)
      refine sq_nil ?_
      refine then_n ?_
      refine wp_ret ?_
      refine then_r ?_
      obtain rfl := Option.some.inj h
      exact ret1 hF rfl (rv_tmp hF rfl) ⟨_, rfl, rfl, (hS.keep (List.Sublist.refl _) (List.Sublist.refl _) trivial)⟩
    ·
      replace h := ifF he11 h
      refine wp_skip ?_
      refine then_n ?_
      refine wp_seq ?_
      refine wp_reg ?_
      refine sq_buildSlice (κ := k_TCube) (xs := []) (ys := ([] : List TCube)) hF hS rfl rfl rfl (Els.nil _ _ _) rfl psl29 pz26 rfl (by decide) (by decide) (by decide) (fun A15 c16 a W hF hS => ?_)
      refine sq_val (v_move hF rfl) hF (by decide) (fun a hF => ?_)
      obtain ⟨x19, hx20, h⟩ := bindS h
      refine sq_append (ys := u0) hF hS (i := 0) rfl rfl rfl (SlR.src (hS.fc (i := 0) rfl)) psl29 pb26 pz26 rfl (by decide) (by decide) hx20 (by decide) (fun A17 c18 a W hF hS => ?_)
      refine sq_buildSlice (κ := k_TCube) (xs := []) (ys := ([] : List TCube)) hF hS rfl rfl rfl (Els.nil _ _ _) rfl psl29 pz26 rfl (by decide) (by decide) (by decide) (fun A21 c22 a W hF hS => ?_)
      refine sq_val (v_move hF rfl) hF (by decide) (fun a hF => ?_)
      obtain ⟨x25, hx26, h⟩ := bindS h
      refine sq_append (ys := u1) hF hS (i := 0) rfl rfl rfl (SlR.src (hS.fc (i := 1) rfl)) psl29 pb26 pz26 rfl (by decide) (by decide) hx26 (by decide) (fun A23 c24 a W hF hS => ?_)
      refine sq_val (v_assign hF rfl) hF (by decide) (fun a hF => ?_)
      refine sq_val (v_assign hF rfl) hF (by decide) (fun a hF => ?_)
      refine sq_nil ?_
      refine then_n ?_
      refine wp_seq ?_
      refine wp_reg ?_
      refine sq_val (v_move hF rfl) hF (by decide) (fun a hF => ?_)
      have hS := hS.freeze (i := 1) rfl (posB rfl)
      obtain ⟨x27, hx28, h⟩ := bindS h
      refine sq_call hF pc37 rfl (by decide) (ok_space_Lean k (hS.enter ⟨⟨0, rfl⟩, trivial⟩) hx28) (fun v W hR a hF => ?_)
      obtain ⟨A29, c30, rfl, hT31⟩ := hR
      have hS := hS.join hT31
      refine sq_val (v_assign hF rfl) hF (by decide) (fun a hF => ?_)
      refine sq_nil ?_
      refine then_n ?_
      refine wp_seq ?_
      refine wp_seq ?_
      refine wp_reg ?_
      refine sq_val (v_assign hF rfl) hF (by decide) (fun a hF => ?_)
      refine sq_nil ?_
      refine then_n ?_
      obtain ⟨o37, h, hk38⟩ := bindS h
      refine wp_join (fun a W => () = o37 ∧ FH 88 [(0, .slice A0_0 ((u0).length) c0_0), (1, .slice A1_0 ((u1).length) c1_0), (5, .slice A17 ((x19).length) c18), (6, .slice A23 ((x25).length) c24)] a ∧ St M w0 [] [⟨k_TCube, 26, A23, c24, x25⟩] [fSl k_TCube A17 c18 x19, fSl k_TCube A0_0 c0_0 u0, fSl k_TCube A1_0 c1_0 u1] W) (fun a W hJ => ?_) ?_
      ·
        obtain ⟨rfl, hF, hS⟩ := hJ
        have h := hk38
        try dsimp only at h
        refine then_n ?_
        refine wp_seq ?_
        refine wp_reg ?_
        refine sq_val (v_move hF rfl) hF (by decide) (fun a hF => ?_)
        refine sq_val (v_move hF rfl) hF (by decide) (fun a hF => ?_)
        have hS := hS.freeze (i := 0) rfl (posB rfl)
        obtain ⟨x39, hx40, h⟩ := bindS h
        refine sq_call hF pc46 rfl (by decide) (ok_space_Meet k (hS.enter ⟨⟨1, rfl⟩, ⟨0, rfl⟩, trivial⟩) hx40) (fun v W hR a hF => ?_)
        obtain ⟨A41, c42, rfl, hT43⟩ := hR
        have hS := hS.join hT43
        refine sq_val (v_move hF rfl) hF (by decide) (fun a hF => ?_)
        refine sq_val (v_extract hF rfl rfl) hF (by decide) (fun a hF => ?_)
        refine sq_val (v_extract hF rfl rfl) hF (by decide) (fun a hF => ?_)
        refine sq_val (v_assign hF rfl) hF (by decide) (fun a hF => ?_)
        refine sq_val (v_assign hF rfl) hF (by decide) (fun a hF => ?_)
        refine sq_nil ?_
        refine then_n ?_
        refine wp_seq ?_
        refine wp_reg ?_
        refine sq_val (v_move hF rfl) hF (by decide) (fun a hF => ?_)
        refine sq_val (v_move hF rfl) hF (by decide) (fun a hF => ?_)
        obtain ⟨x44, hx45, h⟩ := bindS h
        refine sq_call hF pc43 rfl (by decide) (ok_space_Less k (hS.enter ⟨⟨1, rfl⟩, ⟨0, rfl⟩, trivial⟩) hx45) (fun v W hR a hF => ?_)
        obtain ⟨A46, c47, rfl, hT48⟩ := hR
        have hS := hS.join hT48
        refine sq_val (v_move hF rfl) hF (by decide) (fun a hF => ?_)
        refine sq_val (v_extract hF rfl rfl) hF (by decide) (fun a hF => ?_)
        refine sq_val (v_extract hF rfl rfl) hF (by decide) (fun a hF => ?_)
        refine sq_val (v_assign hF rfl) hF (by decide) (fun a hF => ?_)
        refine sq_val (v_assign hF rfl) hF (by decide) (fun a hF => ?_)
        refine sq_nil ?_
        refine then_n ?_
        refine wp_seq ?_
        refine wp_seq ?_
        refine wp_reg ?_
        refine sq_val (v_assign hF rfl) hF (by decide) (fun a hF => ?_)
        refine sq_nil ?_
        refine then_n ?_
        obtain ⟨o54, h, hk55⟩ := bindS h
        refine wp_join (fun a W => () = o54 ∧ FH 88 [(0, .slice A0_0 ((u0).length) c0_0), (1, .slice A1_0 ((u1).length) c1_0), (5, .slice A17 ((x19).length) c18), (6, .slice A23 ((x25).length) c24), (11, .slice A46 ((x44.1).length) c47)] a ∧ St M w0 [] [⟨k_TCube, 26, A46, c47, x44.1⟩] [fSl k_TCube A23 c24 x25, fSl k_TCube A17 c18 x19, fSl k_TCube A0_0 c0_0 u0, fSl k_TCube A1_0 c1_0 u1] W) (fun a W hJ => ?_) ?_
        ·
          obtain ⟨rfl, hF, hS⟩ := hJ
          have h := hk55
          try dsimp only at h
          refine then_n ?_
          refine wp_seq ?_
          refine wp_seq ?_
          refine wp_reg ?_
          refine sq_val (v_assign hF rfl) hF (by decide) (fun a hF => ?_)
          refine sq_nil ?_
          refine then_n ?_
          obtain ⟨o61, h, hk62⟩ := bindS h
          refine wp_join (fun a W => () = o61 ∧ FH 88 [(0, .slice A0_0 ((u0).length) c0_0), (1, .slice A1_0 ((u1).length) c1_0), (5, .slice A17 ((x19).length) c18), (6, .slice A23 ((x25).length) c24)] a ∧ St M w0 [] [] [fSl k_TCube A23 c24 x25, fSl k_TCube A17 c18 x19, fSl k_TCube A0_0 c0_0 u0, fSl k_TCube A1_0 c1_0 u1] W) (fun a W hJ => ?_) ?_
          ·
            obtain ⟨rfl, hF, hS⟩ := hJ
            have h := hk62
            try dsimp only at h
            refine then_n ?_
            refine wp_seq ?_
            refine wp_reg ?_
            obtain ⟨x63, hx64, h⟩ := bindS h
            refine sq_call hF pc36 rfl (by decide) (ok_law03_answers k (hS.enter trivial) hx64) (fun v W hR a hF => ?_)
            obtain ⟨rfl, hT65⟩ := hR
            have hS := hS.grow hT65.below
            refine sq_val (v_move hF rfl) hF (by decide) (fun a hF => ?_)
            obtain ⟨x67, h, hk69⟩ := bindS h
            refine sq_cut 4 (fun a W => FH 88 [(1, .slice A1_0 ((u1).length) c1_0), (6, .slice A23 ((x25).length) c24), (82, .bool x67)] a ∧ St M w0 [] [] [fSl k_TCube A23 c24 x25, fSl k_TCube A17 c18 x19, fSl k_TCube A0_0 c0_0 u0, fSl k_TCube A1_0 c1_0 u1] W) (fun a W hJ => ?_) ?_
            ·
              have h := hk69
              obtain ⟨hF, hS⟩ := hJ
              refine sq_val (v_move hF rfl) hF (by decide) (fun a hF => ?_)
              obtain ⟨x74, h, hk76⟩ := bindS h
              refine sq_cut 4 (fun a W => FH 88 [(87, .bool x74)] a ∧ St M w0 [] [] [fSl k_TCube A23 c24 x25, fSl k_TCube A17 c18 x19, fSl k_TCube A0_0 c0_0 u0, fSl k_TCube A1_0 c1_0 u1] W) (fun a W hJ => ?_) ?_
              ·
                have h := hk76
                obtain ⟨hF, hS⟩ := hJ
                refine sq_val (v_assign hF rfl) hF (by decide) (fun a hF => ?_)
                refine sq_nil ?_
                refine then_n ?_
                refine wp_ret ?_
                obtain rfl := Option.some.inj h
                exact ret1 hF rfl (rv_tmp hF rfl) ⟨_, rfl, rfl, (hS.keep (List.Sublist.refl _) (List.Sublist.refl _) trivial)⟩
              ·
                by_cases he73 : x67 = true
                ·
                  replace h := ifT he73 h
                  refine sq_yes hF rfl rfl he73 ?_
                  refine sq_val (v_move hF rfl) hF (by decide) (fun a hF => ?_)
                  refine sq_yes hF rfl rfl he73 ?_
                  refine sq_val (v_move hF rfl) hF (by decide) (fun a hF => ?_)
                  refine sq_yes hF rfl rfl he73 ?_
                  obtain ⟨x77, hx78, h⟩ := bindS h
                  refine sq_call hF pc21 rfl (by decide) (ok_ref01_SameCubes k (hS.enter ⟨⟨0, rfl⟩, ⟨3, rfl⟩, trivial⟩) hx78) (fun v W hR a hF => ?_)
                  obtain ⟨rfl, hT79⟩ := hR
                  have hS := hS.grow hT79.below
                  refine sq_val (v_pick_t hF rfl he73 rfl) hF (by decide) (fun a hF => ?_)
                  obtain rfl := Option.some.inj h
                  exact sq_nil (then_j ⟨(hF.keep ⟨rfl, trivial⟩), hS⟩)
                ·
                  have he73 : x67 = false := nB he73
                  replace h := ifF he73 h
                  refine sq_no hF rfl rfl he73 (by rintro x ⟨⟩; decide) (fun a hF => ?_)
                  refine sq_no hF rfl rfl he73 (by rintro x ⟨⟩; decide) (fun a hF => ?_)
                  refine sq_no hF rfl rfl he73 (by rintro x ⟨⟩; decide) (fun a hF => ?_)
                  refine sq_val (v_pick_f hF rfl he73 rfl) hF (by decide) (fun a hF => ?_)
                  obtain rfl := Option.some.inj h
                  exact sq_nil (then_j ⟨(hF.keep ⟨rfl, trivial⟩), hS⟩)
            ·
              by_cases he66 : x63 = true
              ·
                replace h := ifT he66 h
                refine sq_yes hF rfl rfl he66 ?_
                refine sq_val (v_move hF rfl) hF (by decide) (fun a hF => ?_)
                refine sq_yes hF rfl rfl he66 ?_
                refine sq_val (v_move hF rfl) hF (by decide) (fun a hF => ?_)
                refine sq_yes hF rfl rfl he66 ?_
                obtain ⟨x70, hx71, h⟩ := bindS h
                refine sq_call hF pc21 rfl (by decide) (ok_ref01_SameCubes k (hS.enter ⟨⟨1, rfl⟩, ⟨2, rfl⟩, trivial⟩) hx71) (fun v W hR a hF => ?_)
                obtain ⟨rfl, hT72⟩ := hR
                have hS := hS.grow hT72.below
                refine sq_val (v_pick_t hF rfl he66 rfl) hF (by decide) (fun a hF => ?_)
                obtain rfl := Option.some.inj h
                exact sq_nil (then_j ⟨(hF.keep ⟨rfl, rfl, rfl, trivial⟩), hS⟩)
              ·
                have he66 : x63 = false := nB he66
                replace h := ifF he66 h
                refine sq_no hF rfl rfl he66 (by rintro x ⟨⟩; decide) (fun a hF => ?_)
                refine sq_no hF rfl rfl he66 (by rintro x ⟨⟩; decide) (fun a hF => ?_)
                refine sq_no hF rfl rfl he66 (by rintro x ⟨⟩; decide) (fun a hF => ?_)
                refine sq_val (v_pick_f hF rfl he66 rfl) hF (by decide) (fun a hF => ?_)
                obtain rfl := Option.some.inj h
                exact sq_nil (then_j ⟨(hF.keep ⟨rfl, rfl, rfl, trivial⟩), hS⟩)
          ·
            refine wp_block ?_
            refine wp_loop_fuel (I := fun m a W => ∃ (x59 : List TCube) (x60 : Int), FH 88 [(0, .slice A0_0 ((u0).length) c0_0), (1, .slice A1_0 ((u1).length) c1_0), (5, .slice A17 ((x19).length) c18), (6, .slice A23 ((x25).length) c24), (11, .slice A46 ((x59).length) c47), (14, .int .i64 (x60))] a ∧ St M w0 [] [⟨k_TCube, 26, A46, c47, x59⟩] [fSl k_TCube A23 c24 x25, fSl k_TCube A17 c18 x19, fSl k_TCube A0_0 c0_0 u0, fSl k_TCube A1_0 c1_0 u1] W ∧ (law03_SpaceKeeps.l2 k m x59 x60) = some o61) ?_ (k := k) ⟨x44.1, 0, (hF.keep ⟨rfl, rfl, rfl, rfl, rfl, rfl, trivial⟩), hS, h⟩
            rintro m80 a W ⟨x59, x60, hF, hS, h⟩
            cases m80 with
            | zero => cases h
            | succ m80 =>
              rw [law03_SpaceKeeps.l2] at h
              refine wp_seq ?_
              refine wp_seq ?_
              refine wp_reg ?_
              refine sq_val (v_move hF rfl) hF (by decide) (fun a hF => ?_)
              refine sq_val (v_move hF rfl) hF (by decide) (fun a hF => ?_)
              refine sq_val (v_len hF rfl pu29) hF (by decide) (fun a hF => ?_)
              refine sq_val (v_lss hF rfl rfl) hF (by decide) (fun a hF => ?_)
              refine sq_nil ?_
              refine then_n ?_
              refine wp_if hF rfl (fun he81 => ?_) (fun he81 => ?_)
              ·
                replace h := ifT he81 h
                refine wp_skip ?_
                refine then_n ?_
                refine wp_seq ?_
                refine wp_block ?_
                refine wp_reg ?_
                refine sq_val (v_move hF rfl) hF (by decide) (fun a hF => ?_)
                refine sq_val (v_move hF rfl) hF (by decide) (fun a hF => ?_)
                obtain ⟨x82, hx83, h⟩ := bindS h
                obtain ⟨p84, cs85, hA86, hc88, hr89⟩ := Row.ok.at (hS.rw_ (i := 0) rfl) hx83
                obtain rfl : cs85 = TCube.enc x82 := hr89
                refine sq_val (v_idx hF rfl hA86 rfl psl29 hx83) hF (by decide) (fun a hF => ?_)
                refine sq_val (v_fieldAddr hF rfl pf26_1) hF (by decide) (fun a hF => ?_)
                refine sq_val (v_indexAddr hF rfl rfl par24 (⟨by decide, by decide⟩ : (0 : Int) ≤ 0 ∧ (0 : Int) < 12).1 (⟨by decide, by decide⟩ : (0 : Int) ≤ 0 ∧ (0 : Int) < 12).2) hF (by decide) (fun a hF => ?_)
                refine sq_storeElP (o := 12 + (0 : Int).toNat * 1) (vs := [.int .u64 (77)]) (x1 := (TCube.setCare x82 (x82.Care.upd 0 77))) hF hS (i := 0) rfl hA86 rfl (by simp only [add_add, Nat.add_assoc] <;> rfl) hx83 rfl rfl ps22 (one1 rfl) (by have h0 := (⟨by decide, by decide⟩ : (0 : Int) ≤ 0 ∧ (0 : Int) < 12).1; have h1 := (⟨by decide, by decide⟩ : (0 : Int) ≤ 0 ∧ (0 : Int) < 12).2; simp only [List.length_cons, List.length_nil]; show _ ≤ 24; omega) (fun cs0 h => by rw [show cs0 = TCube.enc x82 from h]; exact (TCube.set_Care x82 0 _ (⟨by decide, by decide⟩ : (0 : Int) ≤ 0 ∧ (0 : Int) < 12).1 (⟨by decide, by decide⟩ : (0 : Int) ≤ 0 ∧ (0 : Int) < 12).2)) (fun W hS => ?_)
                have hF : FH 88 [(0, .slice A0_0 ((u0).length) c0_0), (1, .slice A1_0 ((u1).length) c1_0), (5, .slice A17 ((x19).length) c18), (6, .slice A23 ((x25).length) c24), (11, .slice A46 (((x59.set x60.toNat (TCube.setCare x82 (x82.Care.upd 0 77)))).length) c47), (14, .int .i64 (x60)), (66, .int .i64 (x60)), (67, .slice A46 (((x59.set x60.toNat (TCube.setCare x82 (x82.Care.upd 0 77)))).length) c47), (68, .int .i64 ((x59.length : Int))), (69, .bool ((decide (x60 < (x59.length : Int))))), (72, .slice A46 (((x59.set x60.toNat (TCube.setCare x82 (x82.Care.upd 0 77)))).length) c47), (73, .int .i64 (x60))] a := (hF.keep ⟨rfl, rfl, rfl, rfl, (by simp only [List.length_set] <;> rfl), rfl, rfl, (by simp only [List.length_set] <;> rfl), rfl, rfl, (by simp only [List.length_set] <;> rfl), rfl, trivial⟩)
                refine sq_nil ?_
                refine blk_n ?_
                refine then_n ?_
                refine wp_reg ?_
                refine sq_val (v_move hF rfl) hF (by decide) (fun a hF => ?_)
                refine sq_val (v_add hF rfl rfl) hF (by decide) (fun a hF => ?_)
                refine sq_val (v_assign hF rfl) hF (by decide) (fun a hF => ?_)
                refine sq_nil ?_
                exact then_j ⟨m80, Nat.lt_succ_self _, (x59.set x60.toNat (TCube.setCare x82 (x82.Care.upd 0 77))), (IntKind.i64.wrap (x60 + 1)), (hF.keep ⟨rfl, rfl, rfl, rfl, rfl, rfl, trivial⟩), hS, h⟩
              ·
                replace h := ifF he81 h
                refine wp_exit ?_
                refine then_x ?_
                refine then_x ?_
                refine blk_hit ?_
                obtain rfl := Option.some.inj h
                exact then_j ⟨rfl, (hF.keep ⟨rfl, rfl, rfl, rfl, trivial⟩), (hS.keep (List.Sublist.refl _) (List.nil_sublist _) ⟨⟨0, rfl⟩, ⟨1, rfl⟩, ⟨2, rfl⟩, ⟨3, rfl⟩, trivial⟩)⟩
        ·
          refine wp_block ?_
          refine wp_loop_fuel (I := fun m a W => ∃ (x52 : List TCube) (x53 : Int), FH 88 [(0, .slice A0_0 ((u0).length) c0_0), (1, .slice A1_0 ((u1).length) c1_0), (5, .slice A17 ((x19).length) c18), (6, .slice A23 ((x25).length) c24), (9, .slice A41 ((x52).length) c42), (11, .slice A46 ((x44.1).length) c47), (13, .int .i64 (x53))] a ∧ St M w0 [] [⟨k_TCube, 26, A46, c47, x44.1⟩, ⟨k_TCube, 26, A41, c42, x52⟩] [fSl k_TCube A23 c24 x25, fSl k_TCube A17 c18 x19, fSl k_TCube A0_0 c0_0 u0, fSl k_TCube A1_0 c1_0 u1] W ∧ (law03_SpaceKeeps.l1 k m x52 x53) = some o54) ?_ (k := k) ⟨x39.1, 0, (hF.keep ⟨rfl, rfl, rfl, rfl, rfl, rfl, rfl, trivial⟩), hS, h⟩
          rintro m90 a W ⟨x52, x53, hF, hS, h⟩
          cases m90 with
          | zero => cases h
          | succ m90 =>
            rw [law03_SpaceKeeps.l1] at h
            refine wp_seq ?_
            refine wp_seq ?_
            refine wp_reg ?_
            refine sq_val (v_move hF rfl) hF (by decide) (fun a hF => ?_)
            refine sq_val (v_move hF rfl) hF (by decide) (fun a hF => ?_)
            refine sq_val (v_len hF rfl pu29) hF (by decide) (fun a hF => ?_)
            refine sq_val (v_lss hF rfl rfl) hF (by decide) (fun a hF => ?_)
            refine sq_nil ?_
            refine then_n ?_
            refine wp_if hF rfl (fun he91 => ?_) (fun he91 => ?_)
            ·
              replace h := ifT he91 h
              refine wp_skip ?_
              refine then_n ?_
              refine wp_seq ?_
              refine wp_block ?_
              refine wp_reg ?_
              refine sq_val (v_move hF rfl) hF (by decide) (fun a hF => ?_)
              refine sq_val (v_move hF rfl) hF (by decide) (fun a hF => ?_)
              obtain ⟨x92, hx93, h⟩ := bindS h
              obtain ⟨p94, cs95, hA96, hc98, hr99⟩ := Row.ok.at (hS.rw_ (i := 1) rfl) hx93
              obtain rfl : cs95 = TCube.enc x92 := hr99
              refine sq_val (v_idx hF rfl hA96 rfl psl29 hx93) hF (by decide) (fun a hF => ?_)
              refine sq_val (v_fieldAddr hF rfl pf26_1) hF (by decide) (fun a hF => ?_)
              refine sq_val (v_indexAddr hF rfl rfl par24 (⟨by decide, by decide⟩ : (0 : Int) ≤ 0 ∧ (0 : Int) < 12).1 (⟨by decide, by decide⟩ : (0 : Int) ≤ 0 ∧ (0 : Int) < 12).2) hF (by decide) (fun a hF => ?_)
              refine sq_storeElP (o := 12 + (0 : Int).toNat * 1) (vs := [.int .u64 (77)]) (x1 := (TCube.setCare x92 (x92.Care.upd 0 77))) hF hS (i := 1) rfl hA96 rfl (by simp only [add_add, Nat.add_assoc] <;> rfl) hx93 rfl rfl ps22 (one1 rfl) (by have h0 := (⟨by decide, by decide⟩ : (0 : Int) ≤ 0 ∧ (0 : Int) < 12).1; have h1 := (⟨by decide, by decide⟩ : (0 : Int) ≤ 0 ∧ (0 : Int) < 12).2; simp only [List.length_cons, List.length_nil]; show _ ≤ 24; omega) (fun cs0 h => by rw [show cs0 = TCube.enc x92 from h]; exact (TCube.set_Care x92 0 _ (⟨by decide, by decide⟩ : (0 : Int) ≤ 0 ∧ (0 : Int) < 12).1 (⟨by decide, by decide⟩ : (0 : Int) ≤ 0 ∧ (0 : Int) < 12).2)) (fun W hS => ?_)
              have hF : FH 88 [(0, .slice A0_0 ((u0).length) c0_0), (1, .slice A1_0 ((u1).length) c1_0), (5, .slice A17 ((x19).length) c18), (6, .slice A23 ((x25).length) c24), (9, .slice A41 (((x52.set x53.toNat (TCube.setCare x92 (x92.Care.upd 0 77)))).length) c42), (11, .slice A46 ((x44.1).length) c47), (13, .int .i64 (x53)), (55, .int .i64 (x53)), (56, .slice A41 (((x52.set x53.toNat (TCube.setCare x92 (x92.Care.upd 0 77)))).length) c42), (57, .int .i64 ((x52.length : Int))), (58, .bool ((decide (x53 < (x52.length : Int))))), (61, .slice A41 (((x52.set x53.toNat (TCube.setCare x92 (x92.Care.upd 0 77)))).length) c42), (62, .int .i64 (x53))] a := (hF.keep ⟨rfl, rfl, rfl, rfl, (by simp only [List.length_set] <;> rfl), rfl, rfl, rfl, (by simp only [List.length_set] <;> rfl), rfl, rfl, (by simp only [List.length_set] <;> rfl), rfl, trivial⟩)
              refine sq_nil ?_
              refine blk_n ?_
              refine then_n ?_
              refine wp_reg ?_
              refine sq_val (v_move hF rfl) hF (by decide) (fun a hF => ?_)
              refine sq_val (v_add hF rfl rfl) hF (by decide) (fun a hF => ?_)
              refine sq_val (v_assign hF rfl) hF (by decide) (fun a hF => ?_)
              refine sq_nil ?_
              exact then_j ⟨m90, Nat.lt_succ_self _, (x52.set x53.toNat (TCube.setCare x92 (x92.Care.upd 0 77))), (IntKind.i64.wrap (x53 + 1)), (hF.keep ⟨rfl, rfl, rfl, rfl, rfl, rfl, rfl, trivial⟩), hS, h⟩
            ·
              replace h := ifF he91 h
              refine wp_exit ?_
              refine then_x ?_
              refine then_x ?_
              refine blk_hit ?_
              obtain rfl := Option.some.inj h
              exact then_j ⟨rfl, (hF.keep ⟨rfl, rfl, rfl, rfl, rfl, trivial⟩), (hS.keep (List.Sublist.refl _) (.cons_cons _ (List.nil_sublist _)) ⟨⟨0, rfl⟩, ⟨1, rfl⟩, ⟨2, rfl⟩, ⟨3, rfl⟩, trivial⟩)⟩
      ·
        refine wp_block ?_
        refine wp_loop_fuel (I := fun m a W => ∃ (x35 : List TCube) (x36 : Int), FH 88 [(0, .slice A0_0 ((u0).length) c0_0), (1, .slice A1_0 ((u1).length) c1_0), (5, .slice A17 ((x19).length) c18), (6, .slice A23 ((x25).length) c24), (7, .slice A29 ((x35).length) c30), (8, .int .i64 (x36))] a ∧ St M w0 [] [⟨k_TCube, 26, A29, c30, x35⟩, ⟨k_TCube, 26, A23, c24, x25⟩] [fSl k_TCube A17 c18 x19, fSl k_TCube A0_0 c0_0 u0, fSl k_TCube A1_0 c1_0 u1] W ∧ (law03_SpaceKeeps.l0 k m x35 x36) = some o37) ?_ (k := k) ⟨x27, 0, (hF.keep ⟨rfl, rfl, rfl, rfl, rfl, rfl, trivial⟩), hS, h⟩
        rintro m100 a W ⟨x35, x36, hF, hS, h⟩
        cases m100 with
        | zero => cases h
        | succ m100 =>
          rw [law03_SpaceKeeps.l0] at h
          refine wp_seq ?_
          refine wp_seq ?_
          refine wp_reg ?_
          refine sq_val (v_move hF rfl) hF (by decide) (fun a hF => ?_)
          refine sq_val (v_move hF rfl) hF (by decide) (fun a hF => ?_)
          refine sq_val (v_len hF rfl pu29) hF (by decide) (fun a hF => ?_)
          refine sq_val (v_lss hF rfl rfl) hF (by decide) (fun a hF => ?_)
          refine sq_nil ?_
          refine then_n ?_
          refine wp_if hF rfl (fun he101 => ?_) (fun he101 => ?_)
          ·
            replace h := ifT he101 h
            refine wp_skip ?_
            refine then_n ?_
            refine wp_seq ?_
            refine wp_block ?_
            refine wp_reg ?_
            refine sq_val (v_move hF rfl) hF (by decide) (fun a hF => ?_)
            refine sq_val (v_move hF rfl) hF (by decide) (fun a hF => ?_)
            obtain ⟨x102, hx103, h⟩ := bindS h
            obtain ⟨p104, cs105, hA106, hc108, hr109⟩ := Row.ok.at (hS.rw_ (i := 0) rfl) hx103
            obtain rfl : cs105 = TCube.enc x102 := hr109
            refine sq_val (v_idx hF rfl hA106 rfl psl29 hx103) hF (by decide) (fun a hF => ?_)
            refine sq_val (v_fieldAddr hF rfl pf26_1) hF (by decide) (fun a hF => ?_)
            refine sq_val (v_indexAddr hF rfl rfl par24 (⟨by decide, by decide⟩ : (0 : Int) ≤ 0 ∧ (0 : Int) < 12).1 (⟨by decide, by decide⟩ : (0 : Int) ≤ 0 ∧ (0 : Int) < 12).2) hF (by decide) (fun a hF => ?_)
            refine sq_storeElP (o := 12 + (0 : Int).toNat * 1) (vs := [.int .u64 (77)]) (x1 := (TCube.setCare x102 (x102.Care.upd 0 77))) hF hS (i := 0) rfl hA106 rfl (by simp only [add_add, Nat.add_assoc] <;> rfl) hx103 rfl rfl ps22 (one1 rfl) (by have h0 := (⟨by decide, by decide⟩ : (0 : Int) ≤ 0 ∧ (0 : Int) < 12).1; have h1 := (⟨by decide, by decide⟩ : (0 : Int) ≤ 0 ∧ (0 : Int) < 12).2; simp only [List.length_cons, List.length_nil]; show _ ≤ 24; omega) (fun cs0 h => by rw [show cs0 = TCube.enc x102 from h]; exact (TCube.set_Care x102 0 _ (⟨by decide, by decide⟩ : (0 : Int) ≤ 0 ∧ (0 : Int) < 12).1 (⟨by decide, by decide⟩ : (0 : Int) ≤ 0 ∧ (0 : Int) < 12).2)) (fun W hS => ?_)
            have hF : FH 88 [(0, .slice A0_0 ((u0).length) c0_0), (1, .slice A1_0 ((u1).length) c1_0), (5, .slice A17 ((x19).length) c18), (6, .slice A23 ((x25).length) c24), (7, .slice A29 (((x35.set x36.toNat (TCube.setCare x102 (x102.Care.upd 0 77)))).length) c30), (8, .int .i64 (x36)), (32, .int .i64 (x36)), (33, .slice A29 (((x35.set x36.toNat (TCube.setCare x102 (x102.Care.upd 0 77)))).length) c30), (34, .int .i64 ((x35.length : Int))), (35, .bool ((decide (x36 < (x35.length : Int))))), (38, .slice A29 (((x35.set x36.toNat (TCube.setCare x102 (x102.Care.upd 0 77)))).length) c30), (39, .int .i64 (x36))] a := (hF.keep ⟨rfl, rfl, rfl, rfl, (by simp only [List.length_set] <;> rfl), rfl, rfl, (by simp only [List.length_set] <;> rfl), rfl, rfl, (by simp only [List.length_set] <;> rfl), rfl, trivial⟩)
            refine sq_nil ?_
            refine blk_n ?_
            refine then_n ?_
            refine wp_reg ?_
            refine sq_val (v_move hF rfl) hF (by decide) (fun a hF => ?_)
            refine sq_val (v_add hF rfl rfl) hF (by decide) (fun a hF => ?_)
            refine sq_val (v_assign hF rfl) hF (by decide) (fun a hF => ?_)
            refine sq_nil ?_
            exact then_j ⟨m100, Nat.lt_succ_self _, (x35.set x36.toNat (TCube.setCare x102 (x102.Care.upd 0 77))), (IntKind.i64.wrap (x36 + 1)), (hF.keep ⟨rfl, rfl, rfl, rfl, rfl, rfl, trivial⟩), hS, h⟩
          ·
            replace h := ifF he101 h
            refine wp_exit ?_
            refine then_x ?_
            refine then_x ?_
            refine blk_hit ?_
            obtain rfl := Option.some.inj h
            exact then_j ⟨rfl, (hF.keep ⟨rfl, rfl, rfl, rfl, trivial⟩), (hS.keep (List.Sublist.refl _) (.cons _ (List.Sublist.refl _)) ⟨⟨0, rfl⟩, ⟨1, rfl⟩, ⟨2, rfl⟩, trivial⟩)⟩
  ·
    by_cases he4 : (!x1) = true
    ·
      replace h := ifT he4 h
      refine sq_no hF rfl rfl he4 (by rintro x ⟨⟩; decide) (fun a hF => ?_)
      refine sq_no hF rfl rfl he4 (by rintro x ⟨⟩; decide) (fun a hF => ?_)
      refine sq_no hF rfl rfl he4 (by rintro x ⟨⟩; decide) (fun a hF => ?_)
      refine sq_val (v_pick_t hF rfl he4 rfl) hF (by decide) (fun a hF => ?_)
      obtain rfl := Option.some.inj h
      exact sq_nil (then_j ⟨(hF.keep ⟨rfl, rfl, rfl, trivial⟩), hS⟩)
    ·
      have he4 : (!x1) = false := nB he4
      replace h := ifF he4 h
      refine sq_yes hF rfl rfl he4 ?_
      refine sq_val (v_move hF rfl) hF (by decide) (fun a hF => ?_)
      refine sq_yes hF rfl rfl he4 ?_
      obtain ⟨x8, hx9, h⟩ := bindS h
      refine sq_call hF pc42 rfl (by decide) (ok_law03_few (hS.enter ⟨⟨1, rfl⟩, trivial⟩) hx9) (fun v W hR a hF => ?_)
      obtain ⟨rfl, hT10⟩ := hR
      have hS := hS.grow hT10.below
      refine sq_yes hF rfl rfl he4 ?_
      refine sq_val (v_not hF rfl) hF (by decide) (fun a hF => ?_)
      refine sq_val (v_pick_f hF rfl he4 rfl) hF (by decide) (fun a hF => ?_)
      obtain rfl := Option.some.inj h
      exact sq_nil (then_j ⟨(hF.keep ⟨rfl, rfl, rfl, trivial⟩), hS⟩)
end Go.Proofs.Ytangebngeeamoaa
