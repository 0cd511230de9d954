/- What calls of the Go functions come to. -/
import Derived.Test.YtangebngeeamoaaW8
set_option linter.unusedVariables false
set_option linter.unusedSimpArgs false
set_option maxRecDepth 100000
set_option maxHeartbeats 4000000
namespace Go.Proofs.Ytangebngeeamoaa
open Go.RowKit Go.Pod
theorem ok_space_Meet (k : Nat) {M : Nat → Prop} {w0 : World} {u0 : List TCube} {A0_0 : Option Addr} {c0_0 : Nat} {u1 : List TCube} {A1_0 : Option Addr} {c1_0 : Nat} {o : (List TCube) × Int} (hS : St M w0 [] [] [fSl k_TCube A0_0 c0_0 u0, fSl k_TCube A1_0 c1_0 u1] w0) (h : space_Meet k u0 u1 = some o) :
    Calls Try.prog 46 #[.slice A0_0 ((u0).length) c0_0, .slice A1_0 ((u1).length) c1_0] w0 fun e W' => ∃ v, e = .returned v ∧ (∃ (A82 : Option Addr) (c83 : Nat), v = .tuple #[.slice A82 ((o.1).length) c83, .int .i64 (o.2)] ∧ St M w0 [] [⟨k_TCube, 26, A82, c83, o.1⟩] [] W') := by
  unfold space_Meet at h
  refine calls_start (args := [.slice A0_0 ((u0).length) c0_0, .slice A1_0 ((u1).length) c1_0]) Try.func46 rfl rfl (Nat.le_of_ble_eq_true rfl) (fun a hF => ?_)
  refine wp_seq ?_
  refine wp_reg ?_
  refine sq_val (v_assign hF rfl) hF (by decide) (fun a hF => ?_)
  refine sq_val (v_assign hF rfl) hF (by decide) (fun a hF => ?_)
  refine sq_nil ?_
  refine then_n ?_
  refine wp_seq ?_
  refine wp_seq ?_
  refine wp_reg ?_
  refine sq_val (v_move hF rfl) hF (by decide) (fun a hF => ?_)
  obtain ⟨x1, hx2, h⟩ := bindS h
  refine sq_call hF pc38 rfl (by decide) (ok_space_Sound k (hS.enter ⟨⟨0, rfl⟩, trivial⟩) hx2) (fun v W hR a hF => ?_)
  obtain ⟨rfl, hT3⟩ := hR
  have hS := hS.grow hT3.below
  refine sq_val (v_not hF rfl) hF (by decide) (fun a hF => ?_)
  refine sq_val (v_move hF rfl) hF (by decide) (fun a hF => ?_)
  obtain ⟨x5, h, hk7⟩ := bindS h
  refine sq_cut 4 (fun a W => FH 50 [(0, .slice A0_0 ((u0).length) c0_0), (1, .slice A1_0 ((u1).length) c1_0), (20, .bool x5)] a ∧ St M w0 [] [] [fSl k_TCube A0_0 c0_0 u0, fSl k_TCube A1_0 c1_0 u1] W) (fun a W hJ => ?_) ?_
  ·
    have h := hk7
    obtain ⟨hF, hS⟩ := hJ
    refine sq_nil ?_
    refine then_n ?_
    refine wp_if hF rfl (fun he11 => ?_) (fun he11 => ?_)
    ·
      replace h := ifT he11 h
      refine wp_seq ?_
      refine wp_reg ?_
      refine sq_val (v_assign hF rfl) hF (by decide) (fun a hF => ?_)
      refine sq_val (v_assign hF rfl) hF (by decide) (fun a hF => ?_)
      refine sq_nil ?_
      refine then_n ?_
      refine wp_ret ?_
      refine then_r ?_
      have hS := hS.addNil k_TCube 26
      obtain rfl := Option.some.inj h
      exact ret2 hF rfl (rv_tmp hF rfl) (rv_tmp hF rfl) ⟨_, rfl, none, 0, rfl, (hS.keep (List.Sublist.refl _) (List.Sublist.refl _) trivial)⟩
    ·
      replace h := ifF he11 h
      refine wp_skip ?_
      refine then_n ?_
      refine wp_seq ?_
      refine wp_reg ?_
      refine sq_val (v_assign hF rfl) hF (by decide) (fun a hF => ?_)
      refine sq_nil ?_
      refine then_n ?_
      refine wp_seq ?_
      refine wp_seq ?_
      refine wp_reg ?_
      refine sq_val (v_move hF rfl) hF (by decide) (fun a hF => ?_)
      refine sq_val (v_len hF rfl pu29) hF (by decide) (fun a hF => ?_)
      refine sq_val (v_move hF rfl) hF (by decide) (fun a hF => ?_)
      refine sq_nil ?_
      refine then_n ?_
      obtain ⟨o23, h, hk24⟩ := bindS h
      refine wp_join (fun a W => ∃ (x20 : List TCube) (A21 : Option Addr) (c22 : Nat), x20 = o23 ∧ FH 50 [(6, .slice A21 ((x20).length) c22)] a ∧ St M w0 [] [⟨k_TCube, 26, A21, c22, x20⟩] [] W) (fun a W hJ => ?_) ?_
      ·
        obtain ⟨x20, A21, c22, rfl, hF, hS⟩ := hJ
        have h := hk24
        refine then_n ?_
        refine wp_seq ?_
        refine wp_reg ?_
        refine sq_val (v_move hF rfl) hF (by decide) (fun a hF => ?_)
        have hS := hS.freeze (i := 0) rfl (posB rfl)
        obtain ⟨x25, hx26, h⟩ := bindS h
        refine sq_call hF pc103 rfl (by decide) (ok_space_lean k (hS.enter ⟨⟨0, rfl⟩, trivial⟩) hx26) (fun v W hR a hF => ?_)
        obtain ⟨A27, c28, rfl, hT29⟩ := hR
        have hS := hS.join hT29
        refine sq_val (v_extract hF rfl rfl) hF (by decide) (fun a hF => ?_)
        refine sq_val (v_extract hF rfl rfl) hF (by decide) (fun a hF => ?_)
        refine sq_val (v_assign hF rfl) hF (by decide) (fun a hF => ?_)
        refine sq_val (v_assign hF rfl) hF (by decide) (fun a hF => ?_)
        refine sq_nil ?_
        refine then_n ?_
        refine wp_ret ?_
        obtain rfl := Option.some.inj h
        exact ret2 hF rfl (rv_tmp hF rfl) (rv_tmp hF rfl) ⟨_, rfl, A27, c28, rfl, (hS.keep (List.Sublist.refl _) (List.Sublist.refl _) trivial)⟩
      ·
        have hS := hS.addNil k_TCube 26
        refine wp_block ?_
        refine wp_loop_fuel (I := fun m a W => ∃ (x16 : List TCube) (x19 : Int) (A17 : Option Addr) (c18 : Nat), FH 50 [(1, .slice A1_0 ((u1).length) c1_0), (6, .slice A17 ((x16).length) c18), (21, .slice A0_0 ((u0).length) c0_0), (22, .int .i64 ((u0.length : Int))), (23, .int .i64 (x19))] a ∧ St M w0 [] [⟨k_TCube, 26, A17, c18, x16⟩] [fSl k_TCube A0_0 c0_0 u0, fSl k_TCube A1_0 c1_0 u1] W ∧ (space_Meet.l0 k u0 u1 m x16 x19) = some o23) ?_ (k := k) ⟨([]), 0, none, 0, (hF.keep ⟨rfl, rfl, rfl, rfl, rfl, trivial⟩), hS, h⟩
        rintro m30 a W ⟨x16, x19, A17, c18, hF, hS, h⟩
        cases m30 with
        | zero => cases h
        | succ m30 =>
          rw [space_Meet.l0] at h
          refine wp_seq ?_
          refine wp_reg ?_
          refine sq_val (v_lss hF rfl rfl) hF (by decide) (fun a hF => ?_)
          refine sq_nil ?_
          refine then_n ?_
          refine wp_seq ?_
          refine wp_if hF rfl (fun he31 => ?_) (fun he31 => ?_)
          ·
            replace h := ifT he31 h
            refine wp_skip ?_
            refine then_n ?_
            refine wp_seq ?_
            refine wp_block ?_
            refine wp_seq ?_
            refine wp_reg ?_
            obtain ⟨x32, hx33, h⟩ := bindS h
            obtain ⟨p34, cs35, hA36, hat37⟩ := SlR.at (hS.fc (i := 0) rfl) hx33
            obtain rfl : cs35 = TCube.enc x32 := hat37.2.2.2
            have hS := hS.addFact (f := fAt k_TCube (p34.add (x19.toNat * 24)) (TCube.enc x32) x32) hat37
            refine sq_val (v_idx hF rfl hA36 rfl psl29 hx33) hF (by decide) (fun a hF => ?_)
            refine sq_val (v_load (cs := TCube.enc x32) hF rfl pa26 ps26 (hS.pc (i := 0) rfl)) hF (by decide) (fun a hF => ?_)
            refine sq_alloc hF hS pz26 rfl (by decide) (fun b38 a W hF hS => ?_)
            refine sq_store (o := 0) (vs := TCube.enc x32) (cs' := TCube.enc x32) hF hS rfl rfl (i := 0) rfl rfl rfl ps26 (TCube.enc_one _) (Nat.le_of_ble_eq_true rfl) rfl (fun W hS => ?_)
            refine sq_nil ?_
            refine then_n ?_
            refine wp_seq ?_
            refine wp_reg ?_
            refine sq_val (v_move hF rfl) hF (by decide) (fun a hF => ?_)
            refine sq_val (v_len hF rfl pu29) hF (by decide) (fun a hF => ?_)
            refine sq_val (v_move hF rfl) hF (by decide) (fun a hF => ?_)
            refine sq_nil ?_
            refine then_n ?_
            obtain ⟨o50, h, hk51⟩ := bindS h
            refine wp_join (fun a W => ∃ (x47 : List TCube) (A48 : Option Addr) (c49 : Nat), x47 = o50 ∧ FH 50 [(1, .slice A1_0 ((u1).length) c1_0), (6, .slice A48 ((x47).length) c49), (21, .slice A0_0 ((u0).length) c0_0), (22, .int .i64 ((u0.length : Int))), (23, .int .i64 (x19))] a ∧ St M w0 [] [⟨k_TCube, 26, A48, c49, x47⟩] [fSl k_TCube A0_0 c0_0 u0, fSl k_TCube A1_0 c1_0 u1] W) (fun a W hJ => ?_) ?_
            ·
              obtain ⟨x47, A48, c49, rfl, hF, hS⟩ := hJ
              have h := hk51
              refine blk_n ?_
              refine then_n ?_
              refine wp_reg ?_
              refine sq_val (v_add hF rfl rfl) hF (by decide) (fun a hF => ?_)
              refine sq_val (v_move hF rfl) hF (by decide) (fun a hF => ?_)
              refine sq_nil ?_
              exact then_j ⟨m30, Nat.lt_succ_self _, x47, (IntKind.i64.wrap (x19 + 1)), A48, c49, (hF.keep ⟨rfl, rfl, rfl, rfl, rfl, trivial⟩), hS, h⟩
            ·
              refine wp_block ?_
              refine wp_loop_fuel (I := fun m a W => ∃ (x43 : List TCube) (x46 : Int) (A44 : Option Addr) (c45 : Nat), FH 50 [(1, .slice A1_0 ((u1).length) c1_0), (6, .slice A44 ((x43).length) c45), (8, .pointer (some (⟨b38, 0, none⟩))), (21, .slice A0_0 ((u0).length) c0_0), (22, .int .i64 ((u0.length : Int))), (23, .int .i64 (x19)), (27, .slice A1_0 ((u1).length) c1_0), (28, .int .i64 ((u1.length : Int))), (29, .int .i64 (x46))] a ∧ St M w0 [⟨b38, TCube.enc x32, 26⟩] [⟨k_TCube, 26, A44, c45, x43⟩] [fSl k_TCube A0_0 c0_0 u0, fSl k_TCube A1_0 c1_0 u1] W ∧ (space_Meet.l1 k u1 x32 m x43 x46) = some o50) ?_ (k := k) ⟨x16, 0, A17, c18, (hF.keep ⟨rfl, rfl, rfl, rfl, rfl, rfl, rfl, rfl, rfl, trivial⟩), (hS.keep (List.Sublist.refl _) (List.Sublist.refl _) ⟨⟨1, rfl⟩, ⟨2, rfl⟩, trivial⟩), h⟩
              rintro m52 a W ⟨x43, x46, A44, c45, hF, hS, h⟩
              cases m52 with
              | zero => cases h
              | succ m52 =>
                rw [space_Meet.l1] at h
                refine wp_seq ?_
                refine wp_reg ?_
                refine sq_val (v_lss hF rfl rfl) hF (by decide) (fun a hF => ?_)
                refine sq_nil ?_
                refine then_n ?_
                refine wp_seq ?_
                refine wp_if hF rfl (fun he53 => ?_) (fun he53 => ?_)
                ·
                  replace h := ifT he53 h
                  refine wp_skip ?_
                  refine then_n ?_
                  refine wp_seq ?_
                  obtain ⟨o57, h, hk58⟩ := bindS h
                  refine wp_join (fun a W => ∃ (x54 : List TCube) (A55 : Option Addr) (c56 : Nat), x54 = o57 ∧ FH 50 [(1, .slice A1_0 ((u1).length) c1_0), (6, .slice A55 ((x54).length) c56), (8, .pointer (some (⟨b38, 0, none⟩))), (21, .slice A0_0 ((u0).length) c0_0), (22, .int .i64 ((u0.length : Int))), (23, .int .i64 (x19)), (27, .slice A1_0 ((u1).length) c1_0), (28, .int .i64 ((u1.length : Int))), (29, .int .i64 (x46))] a ∧ St M w0 [⟨b38, TCube.enc x32, 26⟩] [⟨k_TCube, 26, A55, c56, x54⟩] [fSl k_TCube A0_0 c0_0 u0, fSl k_TCube A1_0 c1_0 u1] W) (fun a W hJ => ?_) ?_
                  ·
                    obtain ⟨x54, A55, c56, rfl, hF, hS⟩ := hJ
                    have h := hk58
                    refine then_n ?_
                    refine wp_reg ?_
                    refine sq_val (v_add hF rfl rfl) hF (by decide) (fun a hF => ?_)
                    refine sq_val (v_move hF rfl) hF (by decide) (fun a hF => ?_)
                    refine sq_nil ?_
                    exact then_j ⟨m52, Nat.lt_succ_self _, x54, (IntKind.i64.wrap (x46 + 1)), A55, c56, (hF.keep ⟨rfl, rfl, rfl, rfl, rfl, rfl, rfl, rfl, rfl, trivial⟩), hS, h⟩
                  ·
                    refine wp_block ?_
                    refine wp_seq ?_
                    refine wp_reg ?_
                    obtain ⟨x59, hx60, h⟩ := bindS h
                    obtain ⟨p61, cs62, hA63, hat64⟩ := SlR.at (hS.fc (i := 1) rfl) hx60
                    obtain rfl : cs62 = TCube.enc x59 := hat64.2.2.2
                    have hS := hS.addFact (f := fAt k_TCube (p61.add (x46.toNat * 24)) (TCube.enc x59) x59) hat64
                    refine sq_val (v_idx hF rfl hA63 rfl psl29 hx60) hF (by decide) (fun a hF => ?_)
                    refine sq_val (v_load (cs := TCube.enc x59) hF rfl pa26 ps26 (hS.pc (i := 0) rfl)) hF (by decide) (fun a hF => ?_)
                    refine sq_alloc hF hS pz26 rfl (by decide) (fun b65 a W hF hS => ?_)
                    refine sq_store (o := 0) (vs := TCube.enc x59) (cs' := TCube.enc x59) hF hS rfl rfl (i := 0) rfl rfl rfl ps26 (TCube.enc_one _) (Nat.le_of_ble_eq_true rfl) rfl (fun W hS => ?_)
                    refine sq_nil ?_
                    refine then_n ?_
                    refine wp_seq ?_
                    refine wp_reg ?_
                    refine sq_val (v_load (cs := TCube.enc x32) hF rfl pa26 ps26 (hS.bc (i := 1) rfl)) hF (by decide) (fun a hF => ?_)
                    refine sq_val (v_load (cs := TCube.enc x59) hF rfl pa26 ps26 (hS.bc (i := 0) rfl)) hF (by decide) (fun a hF => ?_)
                    obtain ⟨x66, hx67, h⟩ := bindS h
                    refine sq_call hF pc12 rfl (by decide) (ok_cube_Meet k (hS.enter trivial) hx67) (fun v W hR a hF => ?_)
                    obtain ⟨rfl, hT68⟩ := hR
                    have hS := hS.grow hT68.below
                    refine sq_val (v_move hF rfl) hF (by decide) (fun a hF => ?_)
                    refine sq_val (v_extract hF rfl rfl) hF (by decide) (fun a hF => ?_)
                    refine sq_val (v_extract hF rfl rfl) hF (by decide) (fun a hF => ?_)
                    refine sq_alloc hF hS pz26 rfl (by decide) (fun b69 a W hF hS => ?_)
                    refine sq_store (o := 0) (vs := TCube.enc x66.1) (cs' := TCube.enc x66.1) hF hS rfl rfl (i := 0) rfl rfl rfl ps26 (TCube.enc_one _) (Nat.le_of_ble_eq_true rfl) rfl (fun W hS => ?_)
                    refine sq_val (v_assign hF rfl) hF (by decide) (fun a hF => ?_)
                    refine sq_nil ?_
                    refine then_n ?_
                    refine wp_seq ?_
                    refine wp_reg ?_
                    refine sq_val (v_move hF rfl) hF (by decide) (fun a hF => ?_)
                    refine sq_nil ?_
                    refine then_n ?_
                    obtain ⟨o73, h, hk74⟩ := bindS h
                    refine wp_join (fun a W => ∃ (x70 : List TCube) (A71 : Option Addr) (c72 : Nat), x70 = o73 ∧ FH 50 [(1, .slice A1_0 ((u1).length) c1_0), (6, .slice A71 ((x70).length) c72), (8, .pointer (some (⟨b38, 0, none⟩))), (21, .slice A0_0 ((u0).length) c0_0), (22, .int .i64 ((u0.length : Int))), (23, .int .i64 (x19)), (27, .slice A1_0 ((u1).length) c1_0), (28, .int .i64 ((u1.length : Int))), (29, .int .i64 (x46))] a ∧ St M w0 [⟨b38, TCube.enc x32, 26⟩] [⟨k_TCube, 26, A71, c72, x70⟩] [fSl k_TCube A0_0 c0_0 u0, fSl k_TCube A1_0 c1_0 u1] W) (fun a W hJ => ?_) ?_
                    ·
                      obtain ⟨x70, A71, c72, rfl, hF, hS⟩ := hJ
                      have h := hk74
                      refine blk_n ?_
                      obtain rfl := Option.some.inj h
                      exact then_j ⟨x70, A71, c72, rfl, (hF.keep ⟨rfl, rfl, rfl, rfl, rfl, rfl, rfl, rfl, rfl, trivial⟩), hS⟩
                    ·
                      refine wp_if hF rfl (fun he75 => ?_) (fun he75 => ?_)
                      ·
                        replace h := ifT he75 h
                        refine wp_reg ?_
                        refine sq_val (v_move hF rfl) hF (by decide) (fun a hF => ?_)
                        refine sq_val (v_load (cs := TCube.enc x66.1) hF rfl pa26 ps26 (hS.bc (i := 0) rfl)) hF (by decide) (fun a hF => ?_)
                        refine sq_buildSlice (κ := k_TCube) (xs := [.tmp 41]) (ys := [x66.1]) hF hS rfl rfl rfl (Els.cons rfl (Els.nil _ _ _)) rfl psl29 pz26 rfl (by decide) (by decide) (by decide) (fun A76 c77 a W hF hS => ?_)
                        obtain ⟨x80, hx81, h⟩ := bindS h
                        refine sq_append (ys := ([x66.1])) hF hS (i := 1) rfl rfl rfl (hS.rw_ (i := 0) rfl).src psl29 pb26 pz26 rfl (by decide) (by decide) hx81 (by decide) (fun A78 c79 a W hF hS => ?_)
                        refine sq_val (v_assign hF rfl) hF (by decide) (fun a hF => ?_)
                        refine sq_nil ?_
                        obtain rfl := Option.some.inj h
                        exact then_j ⟨x80, A78, c79, rfl, (hF.keep ⟨rfl, rfl, rfl, rfl, rfl, rfl, rfl, rfl, rfl, trivial⟩), (hS.keep (.cons _ (.cons _ (List.Sublist.refl _))) (.cons _ (List.Sublist.refl _)) ⟨⟨1, rfl⟩, ⟨2, rfl⟩, trivial⟩)⟩
                      ·
                        replace h := ifF he75 h
                        refine wp_skip ?_
                        obtain rfl := Option.some.inj h
                        exact then_j ⟨x43, A44, c45, rfl, (hF.keep ⟨rfl, rfl, rfl, rfl, rfl, rfl, rfl, rfl, rfl, trivial⟩), (hS.keep (.cons _ (.cons _ (List.Sublist.refl _))) (List.Sublist.refl _) ⟨⟨1, rfl⟩, ⟨2, rfl⟩, trivial⟩)⟩
                ·
                  replace h := ifF he53 h
                  refine wp_exit ?_
                  refine then_x ?_
                  refine then_x ?_
                  refine blk_hit ?_
                  obtain rfl := Option.some.inj h
                  exact then_j ⟨x43, A44, c45, rfl, (hF.keep ⟨rfl, rfl, rfl, rfl, rfl, trivial⟩), (hS.keep (List.nil_sublist _) (List.Sublist.refl _) ⟨⟨0, rfl⟩, ⟨1, rfl⟩, trivial⟩)⟩
          ·
            replace h := ifF he31 h
            refine wp_exit ?_
            refine then_x ?_
            refine then_x ?_
            refine blk_hit ?_
            obtain rfl := Option.some.inj h
            exact then_j ⟨x16, A17, c18, rfl, (hF.keep ⟨rfl, trivial⟩), (hS.keep (List.Sublist.refl _) (List.Sublist.refl _) trivial)⟩
  ·
    by_cases he4 : (!x1) = true
    ·
      replace h := ifT he4 h
      refine sq_no hF rfl rfl he4 (by rintro x ⟨⟩; decide) (fun a hF => ?_)
      refine sq_no hF rfl rfl he4 (by rintro x ⟨⟩; decide) (fun a hF => ?_)
      refine sq_no hF rfl rfl he4 (by rintro x ⟨⟩; decide) (fun a hF => ?_)
      refine sq_val (v_pick_t hF rfl he4 rfl) hF (by decide) (fun a hF => ?_)
      obtain rfl := Option.some.inj h
      exact sq_nil (then_j ⟨(hF.keep ⟨rfl, rfl, rfl, trivial⟩), hS⟩)
    ·
      have he4 : (!x1) = false := nB he4
      replace h := ifF he4 h
      refine sq_yes hF rfl rfl he4 ?_
      refine sq_val (v_move hF rfl) hF (by decide) (fun a hF => ?_)
      refine sq_yes hF rfl rfl he4 ?_
      obtain ⟨x8, hx9, h⟩ := bindS h
      refine sq_call hF pc38 rfl (by decide) (ok_space_Sound k (hS.enter ⟨⟨1, rfl⟩, trivial⟩) hx9) (fun v W hR a hF => ?_)
      obtain ⟨rfl, hT10⟩ := hR
      have hS := hS.grow hT10.below
      refine sq_yes hF rfl rfl he4 ?_
      refine sq_val (v_not hF rfl) hF (by decide) (fun a hF => ?_)
      refine sq_val (v_pick_f hF rfl he4 rfl) hF (by decide) (fun a hF => ?_)
      obtain rfl := Option.some.inj h
      exact sq_nil (then_j ⟨(hF.keep ⟨rfl, rfl, rfl, trivial⟩), hS⟩)

theorem ok_law03_SpaceLaws (k : Nat) {M : Nat → Prop} {w0 : World} {u0 : List TCube} {A0_0 : Option Addr} {c0_0 : Nat} {u1 : List TCube} {A1_0 : Option Addr} {c1_0 : Nat} {o : Bool} (hS : St M w0 [] [] [fSl k_TCube A0_0 c0_0 u0, fSl k_TCube A1_0 c1_0 u1] w0) (h : law03_SpaceLaws k u0 u1 = some o) :
    Calls Try.prog 10 #[.slice A0_0 ((u0).length) c0_0, .slice A1_0 ((u1).length) c1_0] w0 fun e W' => ∃ v, e = .returned v ∧ (v = .bool (o) ∧ St M w0 [] [] [] W') := by
  unfold law03_SpaceLaws at h
  refine calls_start (args := [.slice A0_0 ((u0).length) c0_0, .slice A1_0 ((u1).length) c1_0]) Try.func10 rfl rfl (Nat.le_of_ble_eq_true rfl) (fun a hF => ?_)
  refine wp_seq ?_
  refine wp_reg ?_
  refine sq_val (v_assign hF rfl) hF (by decide) (fun a hF => ?_)
  refine sq_nil ?_
  refine then_n ?_
  refine wp_seq ?_
  refine wp_seq ?_
  refine wp_reg ?_
  refine sq_val (v_move hF rfl) hF (by decide) (fun a hF => ?_)
  obtain ⟨x1, hx2, h⟩ := bindS h
  refine sq_call hF pc42 rfl (by decide) (ok_law03_few (hS.enter ⟨⟨0, rfl⟩, trivial⟩) hx2) (fun v W hR a hF => ?_)
  obtain ⟨rfl, hT3⟩ := hR
  have hS := hS.grow hT3.below
  refine sq_val (v_not hF rfl) hF (by decide) (fun a hF => ?_)
  refine sq_val (v_move hF rfl) hF (by decide) (fun a hF => ?_)
  obtain ⟨x5, h, hk7⟩ := bindS h
  refine sq_cut 4 (fun a W => FH 97 [(0, .slice A0_0 ((u0).length) c0_0), (1, .slice A1_0 ((u1).length) c1_0), (21, .bool x5)] a ∧ St M w0 [] [] [fSl k_TCube A0_0 c0_0 u0, fSl k_TCube A1_0 c1_0 u1] W) (fun a W hJ => ?_) ?_
  ·
    have h := hk7
    obtain ⟨hF, hS⟩ := hJ
    refine sq_nil ?_
    refine then_n ?_
    refine wp_if hF rfl (fun he11 => ?_) (fun he11 => ?_)
    ·
      replace h := ifT he11 h
      refine wp_seq ?_
      refine wp_reg ?_
      obtain ⟨x12, hx13, h⟩ := bindS h
      refine sq_call hF pc36 rfl (by decide) (ok_law03_answers k (hS.enter trivial) hx13) (fun v W hR a hF => ?_)
      obtain ⟨rfl, hT14⟩ := hR
      have hS := hS.grow hT14.below
      refine sq_val (v_assign hF rfl) hF (by decide) (fun a hF => ?_)
      refine sq_nil ?_
      refine then_n ?_
      refine wp_ret ?_
      refine then_r ?_
      obtain rfl := Option.some.inj h
      exact ret1 hF rfl (rv_tmp hF rfl) ⟨_, rfl, rfl, (hS.keep (List.Sublist.refl _) (List.Sublist.refl _) trivial)⟩
    ·
      replace h := ifF he11 h
      refine wp_skip ?_
      refine then_n ?_
      refine wp_seq ?_
      refine wp_reg ?_
      refine sq_val (v_move hF rfl) hF (by decide) (fun a hF => ?_)
      refine sq_val (v_move hF rfl) hF (by decide) (fun a hF => ?_)
      obtain ⟨x15, hx16, h⟩ := bindS h
      refine sq_call hF pc46 rfl (by decide) (ok_space_Meet k (hS.enter ⟨⟨0, rfl⟩, ⟨1, rfl⟩, trivial⟩) hx16) (fun v W hR a hF => ?_)
      obtain ⟨A17, c18, rfl, hT19⟩ := hR
      have hS := hS.join hT19
      refine sq_val (v_move hF rfl) hF (by decide) (fun a hF => ?_)
      refine sq_val (v_extract hF rfl rfl) hF (by decide) (fun a hF => ?_)
      refine sq_val (v_extract hF rfl rfl) hF (by decide) (fun a hF => ?_)
      refine sq_val (v_assign hF rfl) hF (by decide) (fun a hF => ?_)
      refine sq_val (v_assign hF rfl) hF (by decide) (fun a hF => ?_)
      refine sq_nil ?_
      refine then_n ?_
      refine wp_seq ?_
      refine wp_reg ?_
      refine sq_val (v_move hF rfl) hF (by decide) (fun a hF => ?_)
      refine sq_val (v_move hF rfl) hF (by decide) (fun a hF => ?_)
      obtain ⟨x20, hx21, h⟩ := bindS h
      refine sq_call hF pc43 rfl (by decide) (ok_space_Less k (hS.enter ⟨⟨0, rfl⟩, ⟨1, rfl⟩, trivial⟩) hx21) (fun v W hR a hF => ?_)
      obtain ⟨A22, c23, rfl, hT24⟩ := hR
      have hS := hS.join hT24
      refine sq_val (v_move hF rfl) hF (by decide) (fun a hF => ?_)
      refine sq_val (v_extract hF rfl rfl) hF (by decide) (fun a hF => ?_)
      refine sq_val (v_extract hF rfl rfl) hF (by decide) (fun a hF => ?_)
      refine sq_val (v_assign hF rfl) hF (by decide) (fun a hF => ?_)
      refine sq_val (v_assign hF rfl) hF (by decide) (fun a hF => ?_)
      refine sq_nil ?_
      refine then_n ?_
      refine wp_seq ?_
      refine wp_seq ?_
      refine wp_reg ?_
      refine sq_val (v_move hF rfl) hF (by decide) (fun a hF => ?_)
      refine sq_val (v_neq hF rfl rfl) hF (by decide) (fun a hF => ?_)
      refine sq_val (v_move hF rfl) hF (by decide) (fun a hF => ?_)
      refine sq_cut 3 (fun a W => FH 97 [(0, .slice A0_0 ((u0).length) c0_0), (1, .slice A1_0 ((u1).length) c1_0), (5, .slice A17 ((x15.1).length) c18), (7, .slice A22 ((x20.1).length) c23), (40, .bool ((x15.2 != 0) || (x20.2 != 0)))] a ∧ St M w0 [] [⟨k_TCube, 26, A22, c23, x20.1⟩, ⟨k_TCube, 26, A17, c18, x15.1⟩] [fSl k_TCube A0_0 c0_0 u0, fSl k_TCube A1_0 c1_0 u1] W) (fun a W hJ => ?_) ?_
      ·
        obtain ⟨hF, hS⟩ := hJ
        refine sq_val (v_move hF rfl) hF (by decide) (fun a hF => ?_)
        refine sq_cut 7 (fun a W => FH 97 [(0, .slice A0_0 ((u0).length) c0_0), (1, .slice A1_0 ((u1).length) c1_0), (5, .slice A17 ((x15.1).length) c18), (7, .slice A22 ((x20.1).length) c23), (48, .bool (((x15.2 != 0) || (x20.2 != 0)) || (decide (64 < (IntKind.i64.wrap ((x15.1.length : Int) + (x20.1.length : Int)))))))] a ∧ St M w0 [] [⟨k_TCube, 26, A22, c23, x20.1⟩, ⟨k_TCube, 26, A17, c18, x15.1⟩] [fSl k_TCube A0_0 c0_0 u0, fSl k_TCube A1_0 c1_0 u1] W) (fun a W hJ => ?_) ?_
        ·
          obtain ⟨hF, hS⟩ := hJ
          refine sq_nil ?_
          refine then_n ?_
          refine wp_if hF rfl (fun he27 => ?_) (fun he27 => ?_)
          ·
            replace h := ifT he27 h
            refine wp_seq ?_
            refine wp_reg ?_
            obtain ⟨x28, hx29, h⟩ := bindS h
            refine sq_call hF pc36 rfl (by decide) (ok_law03_answers k (hS.enter trivial) hx29) (fun v W hR a hF => ?_)
            obtain ⟨rfl, hT30⟩ := hR
            have hS := hS.grow hT30.below
            refine sq_val (v_assign hF rfl) hF (by decide) (fun a hF => ?_)
            refine sq_nil ?_
            refine then_n ?_
            refine wp_ret ?_
            refine then_r ?_
            obtain rfl := Option.some.inj h
            exact ret1 hF rfl (rv_tmp hF rfl) ⟨_, rfl, rfl, (hS.keep (List.Sublist.refl _) (List.nil_sublist _) trivial)⟩
          ·
            replace h := ifF he27 h
            refine wp_skip ?_
            refine then_n ?_
            refine wp_seq ?_
            refine wp_reg ?_
            refine sq_buildSlice (κ := k_TCube) (xs := []) (ys := ([] : List TCube)) hF hS rfl rfl rfl (Els.nil _ _ _) rfl psl29 pz26 rfl (by decide) (by decide) (by decide) (fun A31 c32 a W hF hS => ?_)
            refine sq_val (v_move hF rfl) hF (by decide) (fun a hF => ?_)
            obtain ⟨x35, hx36, h⟩ := bindS h
            refine sq_append (ys := x15.1) hF hS (i := 0) rfl rfl rfl (hS.rw_ (i := 2) rfl).src psl29 pb26 pz26 rfl (by decide) (by decide) hx36 (by decide) (fun A33 c34 a W hF hS => ?_)
            refine sq_val (v_move hF rfl) hF (by decide) (fun a hF => ?_)
            obtain ⟨x39, hx40, h⟩ := bindS h
            refine sq_append (ys := x20.1) hF hS (i := 0) rfl rfl rfl (hS.rw_ (i := 1) rfl).src psl29 pb26 pz26 rfl (by decide) (by decide) hx40 (by decide) (fun A37 c38 a W hF hS => ?_)
            refine sq_val (v_assign hF rfl) hF (by decide) (fun a hF => ?_)
            refine sq_nil ?_
            refine then_n ?_
            refine wp_seq ?_
            refine wp_reg ?_
            refine sq_val (v_move hF rfl) hF (by decide) (fun a hF => ?_)
            refine sq_val (v_move hF rfl) hF (by decide) (fun a hF => ?_)
            obtain ⟨x41, hx42, h⟩ := bindS h
            refine sq_call hF pc44 rfl (by decide) (ok_space_Within k ((hS.freeze (i := 0) rfl (posB rfl)).enter ⟨⟨1, rfl⟩, ⟨0, rfl⟩, trivial⟩) hx42) (fun v W hR a hF => ?_)
            obtain ⟨rfl, hT43⟩ := hR
            have hS := hS.grow hT43.below
            refine sq_val (v_move hF rfl) hF (by decide) (fun a hF => ?_)
            refine sq_val (v_extract hF rfl rfl) hF (by decide) (fun a hF => ?_)
            refine sq_val (v_extract hF rfl rfl) hF (by decide) (fun a hF => ?_)
            refine sq_val (v_assign hF rfl) hF (by decide) (fun a hF => ?_)
            refine sq_val (v_assign hF rfl) hF (by decide) (fun a hF => ?_)
            refine sq_nil ?_
            refine then_n ?_
            refine wp_seq ?_
            refine wp_reg ?_
            refine sq_val (v_move hF rfl) hF (by decide) (fun a hF => ?_)
            refine sq_val (v_move hF rfl) hF (by decide) (fun a hF => ?_)
            obtain ⟨x44, hx45, h⟩ := bindS h
            refine sq_call hF pc44 rfl (by decide) (ok_space_Within k ((hS.freeze (i := 0) rfl (posB rfl)).enter ⟨⟨0, rfl⟩, ⟨1, rfl⟩, trivial⟩) hx45) (fun v W hR a hF => ?_)
            obtain ⟨rfl, hT46⟩ := hR
            have hS := hS.grow hT46.below
            refine sq_val (v_move hF rfl) hF (by decide) (fun a hF => ?_)
            refine sq_val (v_extract hF rfl rfl) hF (by decide) (fun a hF => ?_)
            refine sq_val (v_extract hF rfl rfl) hF (by decide) (fun a hF => ?_)
            refine sq_val (v_assign hF rfl) hF (by decide) (fun a hF => ?_)
            refine sq_val (v_assign hF rfl) hF (by decide) (fun a hF => ?_)
            refine sq_nil ?_
            refine then_n ?_
            refine wp_seq ?_
            refine wp_reg ?_
            obtain ⟨x47, hx48, h⟩ := bindS h
            refine sq_call hF pc36 rfl (by decide) (ok_law03_answers k (hS.enter trivial) hx48) (fun v W hR a hF => ?_)
            obtain ⟨rfl, hT49⟩ := hR
            have hS := hS.grow hT49.below
            refine sq_val (v_move hF rfl) hF (by decide) (fun a hF => ?_)
            obtain ⟨x51, h, hk53⟩ := bindS h
            refine sq_cut 5 (fun a W => FH 97 [(0, .slice A0_0 ((u0).length) c0_0), (1, .slice A1_0 ((u1).length) c1_0), (5, .slice A17 ((x15.1).length) c18), (10, .bool (x41.1)), (11, .int .i64 (x41.2)), (12, .bool (x44.1)), (13, .int .i64 (x44.2)), (73, .bool x51)] a ∧ St M w0 [] [⟨k_TCube, 26, A37, c38, x39⟩, ⟨k_TCube, 26, A22, c23, x20.1⟩, ⟨k_TCube, 26, A17, c18, x15.1⟩] [fSl k_TCube A0_0 c0_0 u0, fSl k_TCube A1_0 c1_0 u1] W) (fun a W hJ => ?_) ?_
            ·
              have h := hk53
              obtain ⟨hF, hS⟩ := hJ
              refine sq_val (v_move hF rfl) hF (by decide) (fun a hF => ?_)
              refine sq_cut 6 (fun a W => FH 97 [(0, .slice A0_0 ((u0).length) c0_0), (1, .slice A1_0 ((u1).length) c1_0), (5, .slice A17 ((x15.1).length) c18), (12, .bool (x44.1)), (13, .int .i64 (x44.2)), (80, .bool (x51 && ((x41.2 != 0) || x41.1)))] a ∧ St M w0 [] [⟨k_TCube, 26, A37, c38, x39⟩, ⟨k_TCube, 26, A22, c23, x20.1⟩, ⟨k_TCube, 26, A17, c18, x15.1⟩] [fSl k_TCube A0_0 c0_0 u0, fSl k_TCube A1_0 c1_0 u1] W) (fun a W hJ => ?_) ?_
              ·
                obtain ⟨hF, hS⟩ := hJ
                refine sq_val (v_move hF rfl) hF (by decide) (fun a hF => ?_)
                refine sq_cut 6 (fun a W => FH 97 [(0, .slice A0_0 ((u0).length) c0_0), (1, .slice A1_0 ((u1).length) c1_0), (5, .slice A17 ((x15.1).length) c18), (87, .bool ((x51 && ((x41.2 != 0) || x41.1)) && ((x44.2 != 0) || x44.1)))] a ∧ St M w0 [] [⟨k_TCube, 26, A37, c38, x39⟩, ⟨k_TCube, 26, A22, c23, x20.1⟩, ⟨k_TCube, 26, A17, c18, x15.1⟩] [fSl k_TCube A0_0 c0_0 u0, fSl k_TCube A1_0 c1_0 u1] W) (fun a W hJ => ?_) ?_
                ·
                  obtain ⟨hF, hS⟩ := hJ
                  refine sq_val (v_move hF rfl) hF (by decide) (fun a hF => ?_)
                  obtain ⟨x62, h, hk64⟩ := bindS h
                  refine sq_cut 8 (fun a W => FH 97 [(96, .bool x62)] a ∧ St M w0 [] [⟨k_TCube, 26, A37, c38, x39⟩, ⟨k_TCube, 26, A22, c23, x20.1⟩, ⟨k_TCube, 26, A17, c18, x15.1⟩] [fSl k_TCube A0_0 c0_0 u0, fSl k_TCube A1_0 c1_0 u1] W) (fun a W hJ => ?_) ?_
                  ·
                    have h := hk64
                    obtain ⟨hF, hS⟩ := hJ
                    refine sq_val (v_assign hF rfl) hF (by decide) (fun a hF => ?_)
                    refine sq_nil ?_
                    refine then_n ?_
                    refine wp_ret ?_
                    obtain rfl := Option.some.inj h
                    exact ret1 hF rfl (rv_tmp hF rfl) ⟨_, rfl, rfl, (hS.keep (List.Sublist.refl _) (List.nil_sublist _) trivial)⟩
                  ·
                    by_cases he61 : ((x51 && ((x41.2 != 0) || x41.1)) && ((x44.2 != 0) || x44.1)) = true
                    ·
                      replace h := ifT he61 h
                      refine sq_yes hF rfl rfl he61 ?_
                      refine sq_val (v_move hF rfl) hF (by decide) (fun a hF => ?_)
                      refine sq_yes hF rfl rfl he61 ?_
                      refine sq_val (v_len hF rfl pu29) hF (by decide) (fun a hF => ?_)
                      refine sq_yes hF rfl rfl he61 ?_
                      refine sq_val (v_gtr hF rfl rfl) hF (by decide) (fun a hF => ?_)
                      refine sq_yes hF rfl rfl he61 ?_
                      refine sq_val (v_move hF rfl) hF (by decide) (fun a hF => ?_)
                      refine sq_yes hF rfl rfl he61 ?_
                      refine sq_val (v_move hF rfl) hF (by decide) (fun a hF => ?_)
                      refine sq_yes hF rfl rfl he61 ?_
                      obtain ⟨x65, hx66, h⟩ := bindS h
                      refine sq_call hF pc45 rfl (by decide) (ok_space_Touch k (hS.enter ⟨⟨0, rfl⟩, ⟨1, rfl⟩, trivial⟩) hx66) (fun v W hR a hF => ?_)
                      obtain ⟨rfl, hT67⟩ := hR
                      have hS := hS.grow hT67.below
                      refine sq_yes hF rfl rfl he61 ?_
                      refine sq_val (v_eqlB hF rfl rfl pu4) hF (by decide) (fun a hF => ?_)
                      refine sq_val (v_pick_t hF rfl he61 rfl) hF (by decide) (fun a hF => ?_)
                      obtain rfl := Option.some.inj h
                      exact sq_nil (then_j ⟨(hF.keep ⟨rfl, trivial⟩), hS⟩)
                    ·
                      have he61 : ((x51 && ((x41.2 != 0) || x41.1)) && ((x44.2 != 0) || x44.1)) = false := nB he61
                      replace h := ifF he61 h
                      refine sq_no hF rfl rfl he61 (by rintro x ⟨⟩; decide) (fun a hF => ?_)
                      refine sq_no hF rfl rfl he61 (by rintro x ⟨⟩; decide) (fun a hF => ?_)
                      refine sq_no hF rfl rfl he61 (by rintro x ⟨⟩; decide) (fun a hF => ?_)
                      refine sq_no hF rfl rfl he61 (by rintro x ⟨⟩; decide) (fun a hF => ?_)
                      refine sq_no hF rfl rfl he61 (by rintro x ⟨⟩; decide) (fun a hF => ?_)
                      refine sq_no hF rfl rfl he61 (by rintro x ⟨⟩; decide) (fun a hF => ?_)
                      refine sq_no hF rfl rfl he61 (by rintro x ⟨⟩; decide) (fun a hF => ?_)
                      refine sq_val (v_pick_f hF rfl he61 rfl) hF (by decide) (fun a hF => ?_)
                      obtain rfl := Option.some.inj h
                      exact sq_nil (then_j ⟨(hF.keep ⟨rfl, trivial⟩), hS⟩)
                ·
                  by_cases he59 : (x51 && ((x41.2 != 0) || x41.1)) = true
                  ·
                    refine sq_yes hF rfl rfl he59 ?_
                    refine sq_val (v_move hF rfl) hF (by decide) (fun a hF => ?_)
                    refine sq_yes hF rfl rfl he59 ?_
                    refine sq_val (v_neq hF rfl rfl) hF (by decide) (fun a hF => ?_)
                    refine sq_yes hF rfl rfl he59 ?_
                    refine sq_val (v_move hF rfl) hF (by decide) (fun a hF => ?_)
                    refine sq_cut 2 (fun a W => FH 97 [(0, .slice A0_0 ((u0).length) c0_0), (1, .slice A1_0 ((u1).length) c1_0), (5, .slice A17 ((x15.1).length) c18), (81, .bool ((x51 && ((x41.2 != 0) || x41.1)))), (86, .bool ((x44.2 != 0) || x44.1))] a ∧ St M w0 [] [⟨k_TCube, 26, A37, c38, x39⟩, ⟨k_TCube, 26, A22, c23, x20.1⟩, ⟨k_TCube, 26, A17, c18, x15.1⟩] [fSl k_TCube A0_0 c0_0 u0, fSl k_TCube A1_0 c1_0 u1] W) (fun a W hJ => ?_) ?_
                    ·
                      obtain ⟨hF, hS⟩ := hJ
                      refine sq_val (v_pick_t hF rfl he59 rfl) hF (by decide) (fun a hF => ?_)
                      exact sq_nil (then_j ⟨(hF.keep ⟨rfl, rfl, rfl, (boolV (and_t he59)), trivial⟩), hS⟩)
                    ·
                      by_cases he60 : (x44.2 != 0) = true
                      ·
                        refine sq_no hF rfl rfl he60 (by rintro x ⟨⟩; decide) (fun a hF => ?_)
                        refine sq_yes hF rfl rfl he59 ?_
                        refine sq_val (v_pick_t hF rfl he60 rfl) hF (by decide) (fun a hF => ?_)
                        exact sq_nil (then_j ⟨(hF.keep ⟨rfl, rfl, rfl, rfl, (boolV (or_t he60)), trivial⟩), hS⟩)
                      ·
                        have he60 : (x44.2 != 0) = false := nB he60
                        refine sq_yes hF rfl rfl he60 ?_
                        refine sq_val (v_move hF rfl) hF (by decide) (fun a hF => ?_)
                        refine sq_yes hF rfl rfl he59 ?_
                        refine sq_val (v_pick_f hF rfl he60 rfl) hF (by decide) (fun a hF => ?_)
                        exact sq_nil (then_j ⟨(hF.keep ⟨rfl, rfl, rfl, rfl, (boolV (or_f he60)), trivial⟩), hS⟩)
                  ·
                    have he59 : (x51 && ((x41.2 != 0) || x41.1)) = false := nB he59
                    refine sq_no hF rfl rfl he59 (by rintro x ⟨⟩; decide) (fun a hF => ?_)
                    refine sq_no hF rfl rfl he59 (by rintro x ⟨⟩; decide) (fun a hF => ?_)
                    refine sq_no hF rfl rfl he59 (by rintro x ⟨⟩; decide) (fun a hF => ?_)
                    refine sq_no2 hF rfl rfl (by rintro x ⟨⟩; decide) (fun a hF => ?_)
                    refine sq_no hF rfl rfl he59 (by rintro x ⟨⟩; decide) (fun a hF => ?_)
                    refine sq_val (v_pick_f hF rfl he59 rfl) hF (by decide) (fun a hF => ?_)
                    exact sq_nil (then_j ⟨(hF.keep ⟨rfl, rfl, rfl, (boolV (and_f he59)), trivial⟩), hS⟩)
              ·
                by_cases he57 : x51 = true
                ·
                  refine sq_yes hF rfl rfl he57 ?_
                  refine sq_val (v_move hF rfl) hF (by decide) (fun a hF => ?_)
                  refine sq_yes hF rfl rfl he57 ?_
                  refine sq_val (v_neq hF rfl rfl) hF (by decide) (fun a hF => ?_)
                  refine sq_yes hF rfl rfl he57 ?_
                  refine sq_val (v_move hF rfl) hF (by decide) (fun a hF => ?_)
                  refine sq_cut 2 (fun a W => FH 97 [(0, .slice A0_0 ((u0).length) c0_0), (1, .slice A1_0 ((u1).length) c1_0), (5, .slice A17 ((x15.1).length) c18), (12, .bool (x44.1)), (13, .int .i64 (x44.2)), (74, .bool (x51)), (79, .bool ((x41.2 != 0) || x41.1))] a ∧ St M w0 [] [⟨k_TCube, 26, A37, c38, x39⟩, ⟨k_TCube, 26, A22, c23, x20.1⟩, ⟨k_TCube, 26, A17, c18, x15.1⟩] [fSl k_TCube A0_0 c0_0 u0, fSl k_TCube A1_0 c1_0 u1] W) (fun a W hJ => ?_) ?_
                  ·
                    obtain ⟨hF, hS⟩ := hJ
                    refine sq_val (v_pick_t hF rfl he57 rfl) hF (by decide) (fun a hF => ?_)
                    exact sq_nil (then_j ⟨(hF.keep ⟨rfl, rfl, rfl, rfl, rfl, (boolV (and_t he57)), trivial⟩), hS⟩)
                  ·
                    by_cases he58 : (x41.2 != 0) = true
                    ·
                      refine sq_no hF rfl rfl he58 (by rintro x ⟨⟩; decide) (fun a hF => ?_)
                      refine sq_yes hF rfl rfl he57 ?_
                      refine sq_val (v_pick_t hF rfl he58 rfl) hF (by decide) (fun a hF => ?_)
                      exact sq_nil (then_j ⟨(hF.keep ⟨rfl, rfl, rfl, rfl, rfl, rfl, (boolV (or_t he58)), trivial⟩), hS⟩)
                    ·
                      have he58 : (x41.2 != 0) = false := nB he58
                      refine sq_yes hF rfl rfl he58 ?_
                      refine sq_val (v_move hF rfl) hF (by decide) (fun a hF => ?_)
                      refine sq_yes hF rfl rfl he57 ?_
                      refine sq_val (v_pick_f hF rfl he58 rfl) hF (by decide) (fun a hF => ?_)
                      exact sq_nil (then_j ⟨(hF.keep ⟨rfl, rfl, rfl, rfl, rfl, rfl, (boolV (or_f he58)), trivial⟩), hS⟩)
                ·
                  have he57 : x51 = false := nB he57
                  refine sq_no hF rfl rfl he57 (by rintro x ⟨⟩; decide) (fun a hF => ?_)
                  refine sq_no hF rfl rfl he57 (by rintro x ⟨⟩; decide) (fun a hF => ?_)
                  refine sq_no hF rfl rfl he57 (by rintro x ⟨⟩; decide) (fun a hF => ?_)
                  refine sq_no2 hF rfl rfl (by rintro x ⟨⟩; decide) (fun a hF => ?_)
                  refine sq_no hF rfl rfl he57 (by rintro x ⟨⟩; decide) (fun a hF => ?_)
                  refine sq_val (v_pick_f hF rfl he57 rfl) hF (by decide) (fun a hF => ?_)
                  exact sq_nil (then_j ⟨(hF.keep ⟨rfl, rfl, rfl, rfl, rfl, (boolV (and_f he57)), trivial⟩), hS⟩)
            ·
              by_cases he50 : x47 = true
              ·
                replace h := ifT he50 h
                refine sq_yes hF rfl rfl he50 ?_
                refine sq_val (v_move hF rfl) hF (by decide) (fun a hF => ?_)
                refine sq_yes hF rfl rfl he50 ?_
                refine sq_val (v_move hF rfl) hF (by decide) (fun a hF => ?_)
                refine sq_yes hF rfl rfl he50 ?_
                obtain ⟨x54, hx55, h⟩ := bindS h
                refine sq_call hF pc45 rfl (by decide) (ok_space_Touch k ((hS.freeze (i := 1) rfl (posB rfl)).enter ⟨⟨0, rfl⟩, ⟨2, rfl⟩, trivial⟩) hx55) (fun v W hR a hF => ?_)
                obtain ⟨rfl, hT56⟩ := hR
                have hS := hS.grow hT56.below
                refine sq_yes hF rfl rfl he50 ?_
                refine sq_val (v_not hF rfl) hF (by decide) (fun a hF => ?_)
                refine sq_val (v_pick_t hF rfl he50 rfl) hF (by decide) (fun a hF => ?_)
                obtain rfl := Option.some.inj h
                exact sq_nil (then_j ⟨(hF.keep ⟨rfl, rfl, rfl, rfl, rfl, rfl, rfl, rfl, trivial⟩), hS⟩)
              ·
                have he50 : x47 = false := nB he50
                replace h := ifF he50 h
                refine sq_no hF rfl rfl he50 (by rintro x ⟨⟩; decide) (fun a hF => ?_)
                refine sq_no hF rfl rfl he50 (by rintro x ⟨⟩; decide) (fun a hF => ?_)
                refine sq_no hF rfl rfl he50 (by rintro x ⟨⟩; decide) (fun a hF => ?_)
                refine sq_no hF rfl rfl he50 (by rintro x ⟨⟩; decide) (fun a hF => ?_)
                refine sq_val (v_pick_f hF rfl he50 rfl) hF (by decide) (fun a hF => ?_)
                obtain rfl := Option.some.inj h
                exact sq_nil (then_j ⟨(hF.keep ⟨rfl, rfl, rfl, rfl, rfl, rfl, rfl, rfl, trivial⟩), hS⟩)
        ·
          by_cases he26 : ((x15.2 != 0) || (x20.2 != 0)) = true
          ·
            refine sq_no hF rfl rfl he26 (by rintro x ⟨⟩; decide) (fun a hF => ?_)
            refine sq_no hF rfl rfl he26 (by rintro x ⟨⟩; decide) (fun a hF => ?_)
            refine sq_no hF rfl rfl he26 (by rintro x ⟨⟩; decide) (fun a hF => ?_)
            refine sq_no hF rfl rfl he26 (by rintro x ⟨⟩; decide) (fun a hF => ?_)
            refine sq_no hF rfl rfl he26 (by rintro x ⟨⟩; decide) (fun a hF => ?_)
            refine sq_no hF rfl rfl he26 (by rintro x ⟨⟩; decide) (fun a hF => ?_)
            refine sq_val (v_pick_t hF rfl he26 rfl) hF (by decide) (fun a hF => ?_)
            exact sq_nil (then_j ⟨(hF.keep ⟨rfl, rfl, rfl, rfl, (boolV (or_t he26)), trivial⟩), hS⟩)
          ·
            have he26 : ((x15.2 != 0) || (x20.2 != 0)) = false := nB he26
            refine sq_yes hF rfl rfl he26 ?_
            refine sq_val (v_move hF rfl) hF (by decide) (fun a hF => ?_)
            refine sq_yes hF rfl rfl he26 ?_
            refine sq_val (v_len hF rfl pu29) hF (by decide) (fun a hF => ?_)
            refine sq_yes hF rfl rfl he26 ?_
            refine sq_val (v_move hF rfl) hF (by decide) (fun a hF => ?_)
            refine sq_yes hF rfl rfl he26 ?_
            refine sq_val (v_len hF rfl pu29) hF (by decide) (fun a hF => ?_)
            refine sq_yes hF rfl rfl he26 ?_
            refine sq_val (v_add hF rfl rfl) hF (by decide) (fun a hF => ?_)
            refine sq_yes hF rfl rfl he26 ?_
            refine sq_val (v_gtr hF rfl rfl) hF (by decide) (fun a hF => ?_)
            refine sq_val (v_pick_f hF rfl he26 rfl) hF (by decide) (fun a hF => ?_)
            exact sq_nil (then_j ⟨(hF.keep ⟨rfl, rfl, rfl, rfl, (boolV (or_f he26)), trivial⟩), hS⟩)
      ·
        by_cases he25 : (x15.2 != 0) = true
        ·
          refine sq_no hF rfl rfl he25 (by rintro x ⟨⟩; decide) (fun a hF => ?_)
          refine sq_no hF rfl rfl he25 (by rintro x ⟨⟩; decide) (fun a hF => ?_)
          refine sq_val (v_pick_t hF rfl he25 rfl) hF (by decide) (fun a hF => ?_)
          exact sq_nil (then_j ⟨(hF.keep ⟨rfl, rfl, rfl, rfl, (boolV (or_t he25)), trivial⟩), hS⟩)
        ·
          have he25 : (x15.2 != 0) = false := nB he25
          refine sq_yes hF rfl rfl he25 ?_
          refine sq_val (v_move hF rfl) hF (by decide) (fun a hF => ?_)
          refine sq_yes hF rfl rfl he25 ?_
          refine sq_val (v_neq hF rfl rfl) hF (by decide) (fun a hF => ?_)
          refine sq_val (v_pick_f hF rfl he25 rfl) hF (by decide) (fun a hF => ?_)
          exact sq_nil (then_j ⟨(hF.keep ⟨rfl, rfl, rfl, rfl, (boolV (or_f he25)), trivial⟩), hS⟩)
  ·
    by_cases he4 : (!x1) = true
    ·
      replace h := ifT he4 h
      refine sq_no hF rfl rfl he4 (by rintro x ⟨⟩; decide) (fun a hF => ?_)
      refine sq_no hF rfl rfl he4 (by rintro x ⟨⟩; decide) (fun a hF => ?_)
      refine sq_no hF rfl rfl he4 (by rintro x ⟨⟩; decide) (fun a hF => ?_)
      refine sq_val (v_pick_t hF rfl he4 rfl) hF (by decide) (fun a hF => ?_)
      obtain rfl := Option.some.inj h
      exact sq_nil (then_j ⟨(hF.keep ⟨rfl, rfl, rfl, trivial⟩), hS⟩)
    ·
      have he4 : (!x1) = false := nB he4
      replace h := ifF he4 h
      refine sq_yes hF rfl rfl he4 ?_
      refine sq_val (v_move hF rfl) hF (by decide) (fun a hF => ?_)
      refine sq_yes hF rfl rfl he4 ?_
      obtain ⟨x8, hx9, h⟩ := bindS h
      refine sq_call hF pc42 rfl (by decide) (ok_law03_few (hS.enter ⟨⟨1, rfl⟩, trivial⟩) hx9) (fun v W hR a hF => ?_)
      obtain ⟨rfl, hT10⟩ := hR
      have hS := hS.grow hT10.below
      refine sq_yes hF rfl rfl he4 ?_
      refine sq_val (v_not hF rfl) hF (by decide) (fun a hF => ?_)
      refine sq_val (v_pick_f hF rfl he4 rfl) hF (by decide) (fun a hF => ?_)
      obtain rfl := Option.some.inj h
      exact sq_nil (then_j ⟨(hF.keep ⟨rfl, rfl, rfl, trivial⟩), hS⟩)
end Go.Proofs.Ytangebngeeamoaa
